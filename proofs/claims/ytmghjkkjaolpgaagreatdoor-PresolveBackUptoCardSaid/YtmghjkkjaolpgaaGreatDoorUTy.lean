/- A text of the prover's own. -/
import Derived.Test.YtmghjkkjaolpgaaGreatDoorUVx
import Derived.Test.YtmghjkkjaolpgaaGreatDoorProg
import Derived.KernelRfl
open ByteArray renaming empty→anq
namespace Go.Proofs
open Go.Sv
@[simp] theorem Tryz.ty2:az Tryz.prog 2=some ⟨(.int .i64),1,8,[.val (.int .i64 0)]⟩:=by kernel_rfl
@[simp] theorem Tryz.ty3:az Tryz.prog 3=some ⟨(.int .i64),1,8,[.val (.int .i64 0)]⟩:=by kernel_rfl
@[simp] theorem Tryz.ty4:az Tryz.prog 4=some ⟨.bool,1,1,[.val (.bool false)]⟩:=by kernel_rfl
@[simp] theorem Tryz.ty5:az Tryz.prog 5=some ⟨(.int .u8),1,1,[.val (.int .u8 0)]⟩:=by kernel_rfl
@[simp] theorem Tryz.ty9:az Tryz.prog 9=some ⟨.str,1,16,[.val (.string anq)]⟩:=by kernel_rfl
@[simp] theorem Tryz.aj8:az Tryz.prog 22=some ⟨(.sl 88),1,24,[.val (.slice none 0 0)]⟩:=by kernel_rfl
@[simp] theorem Tryz.akm:az Tryz.prog 23=some ⟨(.sl 90),1,24,[.val (.slice none 0 0)]⟩:=by kernel_rfl
@[simp] theorem Tryz.ali:az Tryz.prog 25=some ⟨(.st [(0,1,4),(1,1,9),(2,1,22),(3,1,23)]),4,72,[.val (.bool false),.val (.string anq),.val (.slice none 0 0),.val (.slice none 0 0)]⟩:=by kernel_rfl
@[simp] theorem Tryz.aj3:az Tryz.prog 26=some ⟨(.ptr 98),1,8,[.val (.pointer none)]⟩:=by kernel_rfl
@[simp] theorem Tryz.akN:az Tryz.prog 27=some ⟨(.sl 3),1,24,[.val (.slice none 0 0)]⟩:=by kernel_rfl
@[simp] theorem Tryz.akQ:az Tryz.prog 29=some ⟨(.st [(0,1,4),(1,1,27)]),2,32,[.val (.bool false),.val (.slice none 0 0)]⟩:=by kernel_rfl
@[simp] theorem Tryz.akT:az Tryz.prog 31=some ⟨(.st [(0,2,29),(2,2,29)]),4,64,[.val (.bool false),.val (.slice none 0 0),.val (.bool false),.val (.slice none 0 0)]⟩:=by kernel_rfl
@[simp] theorem Tryz.akz:az Tryz.prog 32=some ⟨(.sl 114),1,24,[.val (.slice none 0 0)]⟩:=by kernel_rfl
@[simp] theorem Tryz.akZ:az Tryz.prog 33=some ⟨(.sl 116),1,24,[.val (.slice none 0 0)]⟩:=by kernel_rfl
@[simp] theorem Tryz.akB:az Tryz.prog 35=some ⟨(.st [(0,1,4),(1,4,31),(5,1,32),(6,1,33)]),7,120,[.val (.bool false),.val (.bool false),.val (.slice none 0 0),.val (.bool false),.val (.slice none 0 0),.val (.slice none 0 0),.val (.slice none 0 0)]⟩:=by kernel_rfl
@[simp] theorem Tryz.ajH:az Tryz.prog 39=some ⟨(.ptr 46),1,8,[.val (.pointer none)]⟩:=by kernel_rfl
@[simp] theorem Tryz.akD:az Tryz.prog 41=some ⟨.iface,1,16,[.val (.nilIface)]⟩:=by kernel_rfl
@[simp] theorem Tryz.akf:az Tryz.prog 44=some ⟨(.sl 64),1,24,[.val (.slice none 0 0)]⟩:=by kernel_rfl
@[simp] theorem Tryz.akF:az Tryz.prog 46=some ⟨(.st [(0,1,4),(1,1,26),(2,1,27),(3,1,44),(4,1,3)]),5,72,[.val (.bool false),.val (.pointer none),.val (.slice none 0 0),.val (.slice none 0 0),.val (.int .i64 0)]⟩:=by kernel_rfl
@[simp] theorem Tryz.akq:az Tryz.prog 57=some ⟨(.sl 210),1,24,[.val (.slice none 0 0)]⟩:=by kernel_rfl
@[simp] theorem Tryz.ak5:az Tryz.prog 59=some ⟨(.st [(0,1,4),(1,1,57)]),2,32,[.val (.bool false),.val (.slice none 0 0)]⟩:=by kernel_rfl
@[simp] theorem Tryz.akx:az Tryz.prog 61=some ⟨(.st [(0,2,59),(2,2,59)]),4,64,[.val (.bool false),.val (.slice none 0 0),.val (.bool false),.val (.slice none 0 0)]⟩:=by kernel_rfl
@[simp] theorem Tryz.ajw:az Tryz.prog 62=some ⟨(.sl 110),1,24,[.val (.slice none 0 0)]⟩:=by kernel_rfl
@[simp] theorem Tryz.akj:az Tryz.prog 64=some ⟨(.st [(0,1,3),(1,1,3),(2,4,61),(6,1,62)]),7,104,[.val (.int .i64 0),.val (.int .i64 0),.val (.bool false),.val (.slice none 0 0),.val (.bool false),.val (.slice none 0 0),.val (.slice none 0 0)]⟩:=by kernel_rfl
@[simp] theorem Tryz.ak3:az Tryz.prog 65=some ⟨(.sl 31),1,24,[.val (.slice none 0 0)]⟩:=by kernel_rfl
@[simp] theorem Tryz.ak6:az Tryz.prog 69=some ⟨(.sl 9),1,24,[.val (.slice none 0 0)]⟩:=by kernel_rfl
@[simp] theorem Tryz.ajT:az Tryz.prog 70=some ⟨(.sl 61),1,24,[.val (.slice none 0 0)]⟩:=by kernel_rfl
@[simp] theorem Tryz.akK:az Tryz.prog 88=some ⟨(.st [(0,1,9),(1,1,4),(2,1,9),(3,1,9),(4,1,9)]),5,72,[.val (.string anq),.val (.bool false),.val (.string anq),.val (.string anq),.val (.string anq)]⟩:=by kernel_rfl
@[simp] theorem Tryz.ajI:az Tryz.prog 90=some ⟨(.st [(0,1,9),(1,1,9),(2,1,9),(3,1,27),(4,1,69)]),5,96,[.val (.string anq),.val (.string anq),.val (.string anq),.val (.slice none 0 0),.val (.slice none 0 0)]⟩:=by kernel_rfl
@[simp] theorem Tryz.akV:az Tryz.prog 94=some ⟨(.sl 4),1,24,[.val (.slice none 0 0)]⟩:=by kernel_rfl
@[simp] theorem Tryz.ajj:az Tryz.prog 95=some ⟨(.sl 106),1,24,[.val (.slice none 0 0)]⟩:=by kernel_rfl
@[simp] theorem Tryz.ajY:az Tryz.prog 96=some ⟨(.sl 108),1,24,[.val (.slice none 0 0)]⟩:=by kernel_rfl
@[simp] theorem Tryz.ajS:az Tryz.prog 98=some ⟨(.st [(0,1,4),(1,4,61),(5,1,95),(6,1,96)]),7,120,[.val (.bool false),.val (.bool false),.val (.slice none 0 0),.val (.bool false),.val (.slice none 0 0),.val (.slice none 0 0),.val (.slice none 0 0)]⟩:=by kernel_rfl
@[simp] theorem Tryz.aiU:az Tryz.prog 100=some ⟨(.st [(0,1,26),(1,1,94),(2,1,94),(3,1,44),(4,1,4),(5,4,61)]),9,152,[.val (.pointer none),.val (.slice none 0 0),.val (.slice none 0 0),.val (.slice none 0 0),.val (.bool false),.val (.bool false),.val (.slice none 0 0),.val (.bool false),.val (.slice none 0 0)]⟩:=by kernel_rfl
@[simp] theorem Tryz.ag4:az Tryz.prog 102=some ⟨(.mp 3 3),1,8,[.val (.map none)]⟩:=by kernel_rfl
@[simp] theorem Tryz.aha:az Tryz.prog 104=some ⟨(.st [(0,1,4),(1,4,61)]),5,72,[.val (.bool false),.val (.bool false),.val (.slice none 0 0),.val (.bool false),.val (.slice none 0 0)]⟩:=by kernel_rfl
@[simp] theorem Tryz.ahS:az Tryz.prog 106=some ⟨(.st [(0,1,9),(1,1,4),(2,5,104),(7,5,104),(12,4,61)]),16,232,[.val (.string anq),.val (.bool false),.val (.bool false),.val (.bool false),.val (.slice none 0 0),.val (.bool false),.val (.slice none 0 0),.val (.bool false),.val (.bool false),.val (.slice none 0 0),.val (.bool false),.val (.slice none 0 0),.val (.bool false),.val (.slice none 0 0),.val (.bool false),.val (.slice none 0 0)]⟩:=by kernel_rfl
@[simp] theorem Tryz.ahw:az Tryz.prog 108=some ⟨(.st [(0,1,9),(1,1,62),(2,5,104),(7,5,104)]),12,184,[.val (.string anq),.val (.slice none 0 0),.val (.bool false),.val (.bool false),.val (.slice none 0 0),.val (.bool false),.val (.slice none 0 0),.val (.bool false),.val (.bool false),.val (.slice none 0 0),.val (.bool false),.val (.slice none 0 0)]⟩:=by kernel_rfl
@[simp] theorem Tryz.aix:az Tryz.prog 110=some ⟨(.st [(0,1,3),(1,4,61)]),5,72,[.val (.int .i64 0),.val (.bool false),.val (.slice none 0 0),.val (.bool false),.val (.slice none 0 0)]⟩:=by kernel_rfl
@[simp] theorem Tryz.ail:az Tryz.prog 112=some ⟨(.st [(0,1,4),(1,4,31)]),5,72,[.val (.bool false),.val (.bool false),.val (.slice none 0 0),.val (.bool false),.val (.slice none 0 0)]⟩:=by kernel_rfl
@[simp] theorem Tryz.ag3:az Tryz.prog 114=some ⟨(.st [(0,1,9),(1,1,4),(2,5,112),(7,5,112),(12,4,31)]),16,232,[.val (.string anq),.val (.bool false),.val (.bool false),.val (.bool false),.val (.slice none 0 0),.val (.bool false),.val (.slice none 0 0),.val (.bool false),.val (.bool false),.val (.slice none 0 0),.val (.bool false),.val (.slice none 0 0),.val (.bool false),.val (.slice none 0 0),.val (.bool false),.val (.slice none 0 0)]⟩:=by kernel_rfl
@[simp] theorem Tryz.ahG:az Tryz.prog 116=some ⟨(.st [(0,1,9),(1,1,27),(2,1,65),(3,5,112),(8,5,112)]),13,208,[.val (.string anq),.val (.slice none 0 0),.val (.slice none 0 0),.val (.bool false),.val (.bool false),.val (.slice none 0 0),.val (.bool false),.val (.slice none 0 0),.val (.bool false),.val (.bool false),.val (.slice none 0 0),.val (.bool false),.val (.slice none 0 0)]⟩:=by kernel_rfl
@[simp] theorem Tryz.ais:az Tryz.prog 131=some ⟨.other,1,8,[.val (.nilFunc)]⟩:=by kernel_rfl
@[simp] theorem Tryz.ag1:az Tryz.prog 138=some ⟨(.st [(0,1,3),(1,1,3)]),2,16,[.val (.int .i64 0),.val (.int .i64 0)]⟩:=by kernel_rfl
@[simp] theorem Tryz.ah2:az Tryz.prog 152=some ⟨(.mp 9 3),1,8,[.val (.map none)]⟩:=by kernel_rfl
@[simp] theorem Tryz.ahV:az Tryz.prog 156=some ⟨(.st [(0,1,94),(1,1,131)]),2,32,[.val (.slice none 0 0),.val (.nilFunc)]⟩:=by kernel_rfl
@[simp] theorem Tryz.ahP:az Tryz.prog 157=some ⟨(.sl 156),1,24,[.val (.slice none 0 0)]⟩:=by kernel_rfl
@[simp] theorem Tryz.ag6:az Tryz.prog 159=some ⟨(.sl 41),1,24,[.val (.slice none 0 0)]⟩:=by kernel_rfl
@[simp] theorem Tryz.ah9:az Tryz.prog 161=some ⟨(.ptr 165),1,8,[.val (.pointer none)]⟩:=by kernel_rfl
@[simp] theorem Tryz.ai1:az Tryz.prog 163=some ⟨(.ptr 161),1,8,[.val (.pointer none)]⟩:=by kernel_rfl
@[simp] theorem Tryz.aiH:az Tryz.prog 165=some ⟨(.st [(0,1,3),(1,1,41)]),2,24,[.val (.int .i64 0),.val (.nilIface)]⟩:=by kernel_rfl
@[simp] theorem Tryz.aiJ:az Tryz.prog 209=some ⟨(.sl 5),1,24,[.val (.slice none 0 0)]⟩:=by kernel_rfl
@[simp] theorem Tryz.ajc:az Tryz.prog 210=some ⟨(.int .u32),1,4,[.val (.int .u32 0)]⟩:=by kernel_rfl
@[simp] theorem Tryz.aiX:az Tryz.prog 225=some ⟨(.st [(0,1,9),(1,1,3),(2,1,41)]),3,40,[.val (.string anq),.val (.int .i64 0),.val (.nilIface)]⟩:=by kernel_rfl
@[simp] theorem Tryz.aht:az Tryz.prog 234=some ⟨(.int .u64),1,8,[.val (.int .u64 0)]⟩:=by kernel_rfl
@[simp] theorem Tryz.ag5:az Tryz.prog 235=some ⟨(.int .u64),1,8,[.val (.int .u64 0)]⟩:=by kernel_rfl
@[simp] theorem Tryz.aiC:az Tryz.prog 250=some ⟨(.mp 3 61),1,8,[.val (.map none)]⟩:=by kernel_rfl
@[simp] theorem Tryz.ok4:al Tryz.prog 4:=fun a w=>Tryz.call4 a w
@[simp] theorem Tryz.ok5:al Tryz.prog 5:=fun a w=>Tryz.call5 a w
@[simp] theorem Tryz.ok6:al Tryz.prog 6:=fun a w=>Tryz.call6 a w
@[simp] theorem Tryz.ok7:al Tryz.prog 7:=fun a w=>Tryz.call7 a w
@[simp] theorem Tryz.ok8:al Tryz.prog 8:=fun a w=>Tryz.call8 a w
@[simp] theorem Tryz.ok9:al Tryz.prog 9:=fun a w=>Tryz.call9 a w
@[simp] theorem Tryz.alj:al Tryz.prog 10:=fun a w=>Tryz.call10 a w
@[simp] theorem Tryz.akM:al Tryz.prog 15:=fun a w=>Tryz.call15 a w
@[simp] theorem Tryz.ako:al Tryz.prog 16:=fun a w=>Tryz.call16 a w
@[simp] theorem Tryz.akS:al Tryz.prog 17:=fun a w=>Tryz.call17 a w
@[simp] theorem Tryz.akU:al Tryz.prog 18:=fun a w=>Tryz.call18 a w
@[simp] theorem Tryz.ajP:al Tryz.prog 19:=fun a w=>Tryz.call19 a w
@[simp] theorem Tryz.aky:al Tryz.prog 20:=fun a w=>Tryz.call20 a w
@[simp] theorem Tryz.aj9:al Tryz.prog 21:=fun a w=>Tryz.call21 a w
@[simp] theorem Tryz.aju:al Tryz.prog 22:=fun a w=>Tryz.call22 a w
@[simp] theorem Tryz.ajk:al Tryz.prog 23:=fun a w=>Tryz.call23 a w
@[simp] theorem Tryz.ajE:al Tryz.prog 24:=fun a w=>Tryz.call24 a w
@[simp] theorem Tryz.akR:al Tryz.prog 25:=fun a w=>Tryz.call25 a w
@[simp] theorem Tryz.alk:al Tryz.prog 26:=fun a w=>Tryz.call26 a w
@[simp] theorem Tryz.alf:al Tryz.prog 27:=fun a w=>Tryz.call27 a w
@[simp] theorem Tryz.akL:al Tryz.prog 28:=fun a w=>Tryz.call28 a w
@[simp] theorem Tryz.ajt:al Tryz.prog 29:=fun a w=>Tryz.call29 a w
@[simp] theorem Tryz.akn:al Tryz.prog 30:=fun a w=>Tryz.call30 a w
@[simp] theorem Tryz.ake:al Tryz.prog 31:=fun a w=>Tryz.call31 a w
@[simp] theorem Tryz.akW:al Tryz.prog 32:=fun a w=>Tryz.call32 a w
@[simp] theorem Tryz.aku:al Tryz.prog 33:=fun a w=>Tryz.call33 a w
@[simp] theorem Tryz.akH:al Tryz.prog 34:=fun a w=>Tryz.call34 a w
@[simp] theorem Tryz.ajK:al Tryz.prog 35:=fun a w=>Tryz.call35 a w
@[simp] theorem Tryz.aj4:al Tryz.prog 43:=fun a w=>Tryz.call43 a w
@[simp] theorem Tryz.ajx:al Tryz.prog 44:=fun a w=>Tryz.call44 a w
@[simp] theorem Tryz.ajL:al Tryz.prog 45:=fun a w=>Tryz.call45 a w
@[simp] theorem Tryz.ajF:al Tryz.prog 46:=fun a w=>Tryz.call46 a w
@[simp] theorem Tryz.aj2:al Tryz.prog 47:=fun a w=>Tryz.call47 a w
@[simp] theorem Tryz.ajG:al Tryz.prog 48:=fun a w=>Tryz.call48 a w
@[simp] theorem Tryz.ajC:al Tryz.prog 49:=fun a w=>Tryz.call49 a w
@[simp] theorem Tryz.ak0:al Tryz.prog 50:=fun a w=>Tryz.call50 a w
@[simp] theorem Tryz.ajN:al Tryz.prog 51:=fun a w=>Tryz.call51 a w
@[simp] theorem Tryz.ajn:al Tryz.prog 52:=fun a w=>Tryz.call52 a w
@[simp] theorem Tryz.ajh:al Tryz.prog 53:=fun a w=>Tryz.call53 a w
@[simp] theorem Tryz.ajy:al Tryz.prog 54:=fun a w=>Tryz.call54 a w
@[simp] theorem Tryz.akl:al Tryz.prog 55:=fun a w=>Tryz.call55 a w
@[simp] theorem Tryz.ajW:al Tryz.prog 56:=fun a w=>Tryz.call56 a w
@[simp] theorem Tryz.ale:al Tryz.prog 57:=fun a w=>Tryz.call57 a w
@[simp] theorem Tryz.ak8:al Tryz.prog 58:=fun a w=>Tryz.call58 a w
@[simp] theorem Tryz.alh:al Tryz.prog 59:=fun a w=>Tryz.call59 a w
@[simp] theorem Tryz.akG:al Tryz.prog 60:=fun a w=>Tryz.call60 a w
@[simp] theorem Tryz.akP:al Tryz.prog 61:=fun a w=>Tryz.call61 a w
@[simp] theorem Tryz.aji:al Tryz.prog 62:=fun a w=>Tryz.call62 a w
@[simp] theorem Tryz.aje:al Tryz.prog 63:=fun a w=>Tryz.call63 a w
@[simp] theorem Tryz.ajd:al Tryz.prog 64:=fun a w=>Tryz.call64 a w
@[simp] theorem Tryz.akA:al Tryz.prog 65:=fun a w=>Tryz.call65 a w
@[simp] theorem Tryz.ajq:al Tryz.prog 66:=fun a w=>Tryz.call66 a w
@[simp] theorem Tryz.aks:al Tryz.prog 67:=fun a w=>Tryz.call67 a w
@[simp] theorem Tryz.ajo:al Tryz.prog 68:=fun a w=>Tryz.call68 a w
@[simp] theorem Tryz.ak1:al Tryz.prog 69:=fun a w=>Tryz.call69 a w
@[simp] theorem Tryz.ajR:al Tryz.prog 70:=fun a w=>Tryz.call70 a w
@[simp] theorem Tryz.akJ:al Tryz.prog 71:=fun a w=>Tryz.call71 a w
@[simp] theorem Tryz.akg:al Tryz.prog 72:=fun a w=>Tryz.call72 a w
@[simp] theorem Tryz.akE:al Tryz.prog 79:=fun a w=>Tryz.call79 a w
@[simp] theorem Tryz.akC:al Tryz.prog 80:=fun a w=>Tryz.call80 a w
@[simp] theorem Tryz.ajs:al Tryz.prog 81:=fun a w=>Tryz.call81 a w
@[simp] theorem Tryz.aj6:al Tryz.prog 82:=fun a w=>Tryz.call82 a w
@[simp] theorem Tryz.akb:al Tryz.prog 83:=fun a w=>Tryz.call83 a w
@[simp] theorem Tryz.ajv:al Tryz.prog 84:=fun a w=>Tryz.call84 a w
@[simp] theorem Tryz.akY:al Tryz.prog 85:=fun a w=>Tryz.call85 a w
@[simp] theorem Tryz.ak7:al Tryz.prog 86:=fun a w=>Tryz.call86 a w
@[simp] theorem Tryz.aj7:al Tryz.prog 87:=fun a w=>Tryz.call87 a w
@[simp] theorem Tryz.akt:al Tryz.prog 88:=fun a w=>Tryz.call88 a w
@[simp] theorem Tryz.ala:al Tryz.prog 89:=fun a w=>Tryz.call89 a w
@[simp] theorem Tryz.ajZ:al Tryz.prog 90:=fun a w=>Tryz.call90 a w
@[simp] theorem Tryz.ajV:al Tryz.prog 91:=fun a w=>Tryz.call91 a w
@[simp] theorem Tryz.ak9:al Tryz.prog 92:=fun a w=>Tryz.call92 a w
@[simp] theorem Tryz.ajz:al Tryz.prog 93:=fun a w=>Tryz.call93 a w
@[simp] theorem Tryz.ajM:al Tryz.prog 94:=fun a w=>Tryz.call94 a w
@[simp] theorem Tryz.akh:al Tryz.prog 95:=fun a w=>Tryz.call95 a w
@[simp] theorem Tryz.ak2:al Tryz.prog 96:=fun a w=>Tryz.call96 a w
@[simp] theorem Tryz.alm:al Tryz.prog 97:=fun a w=>Tryz.call97 a w
@[simp] theorem Tryz.ajD:al Tryz.prog 98:=fun a w=>Tryz.call98 a w
@[simp] theorem Tryz.akO:al Tryz.prog 99:=fun a w=>Tryz.call99 a w
@[simp] theorem Tryz.ahX:al Tryz.prog 100:=fun a w=>Tryz.call100 a w
@[simp] theorem Tryz.ag2:al Tryz.prog 101:=fun a w=>Tryz.call101 a w
@[simp] theorem Tryz.air:al Tryz.prog 102:=fun a w=>Tryz.call102 a w
@[simp] theorem Tryz.ahh:al Tryz.prog 103:=fun a w=>Tryz.call103 a w
@[simp] theorem Tryz.ahf:al Tryz.prog 105:=fun a w=>Tryz.call105 a w
@[simp] theorem Tryz.ai6:al Tryz.prog 109:=fun a w=>Tryz.call109 a w
@[simp] theorem Tryz.ahz:al Tryz.prog 110:=fun a w=>Tryz.call110 a w
@[simp] theorem Tryz.aiz:al Tryz.prog 111:=fun a w=>Tryz.call111 a w
@[simp] theorem Tryz.ahN:al Tryz.prog 124:=fun a w=>Tryz.call124 a w
@[simp] theorem Tryz.ahx:al Tryz.prog 125:=fun a w=>Tryz.call125 a w
@[simp] theorem Tryz.aiZ:al Tryz.prog 126:=fun a w=>Tryz.call126 a w
@[simp] theorem Tryz.ahg:al Tryz.prog 127:=fun a w=>Tryz.call127 a w
@[simp] theorem Tryz.aiI:al Tryz.prog 128:=fun a w=>Tryz.call128 a w
@[simp] theorem Tryz.ahC:al Tryz.prog 129:=fun a w=>Tryz.call129 a w
@[simp] theorem Tryz.aiW:al Tryz.prog 130:=fun a w=>Tryz.call130 a w
@[simp] theorem Tryz.ah0:al Tryz.prog 131:=fun a w=>Tryz.call131 a w
@[simp] theorem Tryz.aic:al Tryz.prog 132:=fun a w=>Tryz.call132 a w
@[simp] theorem Tryz.ajb:al Tryz.prog 133:=fun a w=>Tryz.call133 a w
@[simp] theorem Tryz.aiR:al Tryz.prog 134:=fun a w=>Tryz.call134 a w
@[simp] theorem Tryz.ahH:al Tryz.prog 135:=fun a w=>Tryz.call135 a w
@[simp] theorem Tryz.aiS:al Tryz.prog 136:=fun a w=>Tryz.call136 a w
@[simp] theorem Tryz.ahj:al Tryz.prog 137:=fun a w=>Tryz.call137 a w
@[simp] theorem Tryz.aiw:al Tryz.prog 138:=fun a w=>Tryz.call138 a w
@[simp] theorem Tryz.ahB:al Tryz.prog 139:=fun a w=>Tryz.call139 a w
@[simp] theorem Tryz.aiM:al Tryz.prog 140:=fun a w=>Tryz.call140 a w
@[simp] theorem Tryz.ahM:al Tryz.prog 141:=fun a w=>Tryz.call141 a w
@[simp] theorem Tryz.aja:al Tryz.prog 142:=fun a w=>Tryz.call142 a w
@[simp] theorem Tryz.ah6:al Tryz.prog 143:=fun a w=>Tryz.call143 a w
@[simp] theorem Tryz.ag7:al Tryz.prog 144:=fun a w=>Tryz.call144 a w
@[simp] theorem Tryz.aiT:al Tryz.prog 145:=fun a w=>Tryz.call145 a w
@[simp] theorem Tryz.ahq:al Tryz.prog 146:=fun a w=>Tryz.call146 a w
@[simp] theorem Tryz.ahR:al Tryz.prog 147:=fun a w=>Tryz.call147 a w
@[simp] theorem Tryz.ahv:al Tryz.prog 148:=fun a w=>Tryz.call148 a w
@[simp] theorem Tryz.aiE:al Tryz.prog 151:=fun a w=>Tryz.call151 a w
@[simp] theorem Tryz.aiV:al Tryz.prog 157:=fun a w=>Tryz.call157 a w
@[simp] theorem Tryz.ain:al Tryz.prog 158:=fun a w=>Tryz.call158 a w
@[simp] theorem Tryz.aiK:al Tryz.prog 159:=fun a w=>Tryz.call159 a w
@[simp] theorem Tryz.aiY:al Tryz.prog 160:=fun a w=>Tryz.call160 a w
@[simp] theorem Tryz.aiB:al Tryz.prog 161:=fun a w=>Tryz.call161 a w
@[simp] theorem Tryz.ahW:al Tryz.prog 162:=fun a w=>Tryz.call162 a w
@[simp] theorem Tryz.ahU:al Tryz.prog 163:=fun a w=>Tryz.call163 a w
@[simp] theorem Tryz.aiP:al Tryz.prog 164:=fun a w=>Tryz.call164 a w
@[simp] theorem Tryz.ahy:al Tryz.prog 165:=fun a w=>Tryz.call165 a w
@[simp] theorem Tryz.ahp:al Tryz.prog 166:=fun a w=>Tryz.call166 a w
@[simp] theorem Tryz.ah7:al Tryz.prog 167:=fun a w=>Tryz.call167 a w
@[simp] theorem Tryz.ahE:al Tryz.prog 168:=fun a w=>Tryz.call168 a w
@[simp] theorem Tryz.ahd:al Tryz.prog 169:=fun a w=>Tryz.call169 a w
@[simp] theorem Tryz.ah5:al Tryz.prog 170:=fun a w=>Tryz.call170 a w
@[simp] theorem Tryz.ahF:al Tryz.prog 171:=fun a w=>Tryz.call171 a w
end Go.Proofs

