/- Q -/
import Derived.Test.YteabgcollokgjaaGreatDoorQP02
import Derived.Laws.Externs
set_option linter.unusedSimpArgs false
set_option linter.unusedVariables false
set_option maxRecDepth 100000
set_option maxHeartbeats 32000000
open Go.Lib (hid)
open Nat renaming le_refl → zA
namespace Go.Proofs.YteabgcollokgjaaGreatDoor
open Go.RowKit Go.MapKept Go.ChangeMaps
set_option maxRecDepth 100000 in
set_option maxHeartbeats 4000000 in
theorem create_any (b:Nat) (E:Files) (run:Value) (nm to:ByteArray) (A:Option Addr) (c:Nat) (tears:Bool) (bs:List UInt8) (w:World) (h:FM w b E) (hn:okS nm) (hd:RB w ⟨A,bs.length,c⟩ bs) (hl:bs.length<=1099511627776):
 Calls Tryz.prog 279 #[.map (some b),.agg #[run,.string nm,.string to,.slice A bs.length c,.bool tears]] w (OpPost b E (setL (plain E) nm bs) w):=by
 have H:=hid h;have Hd:=hid hd;have Hn:=hid hn;have hblt:=h.1.lt;clear h hd hn;go_enter Tryz.func279,Tryz.ntmps279;go_wp2_with fail
 have Box:Hid (IsB (w.alloc (.cells #[run,.string nm,.string to,.slice A bs.length c,.bool tears] 239)) w.heap.size 239 #[run,.string nm,.string to,.slice A bs.length c,.bool tears]):=IsB.new _ _ _;have HW:Hid (FM (w.alloc (.cells #[run,.string nm,.string to,.slice A bs.length c,.bool tears] 239)) b E):=H.out.on (bel1 _ _);have HS:Hid (SB (w.alloc (.cells #[run,.string nm,.string to,.slice A bs.length c,.bool tears] 239)) A bs):=(Hd.out.on (bel1 _ _)).src;have hs0:w.heap.size+1=(w.alloc (.cells #[run,.string nm,.string to,.slice A bs.length c,.bool tears] 239)).heap.size:=by simp
 have HB0:Hid (Below w.heap.size w (w.alloc (.cells #[run,.string nm,.string to,.slice A bs.length c,.bool tears] 239))):=bel1 _ _;have c1:(w.alloc (.cells #[run,.string nm,.string to,.slice A bs.length c,.bool tears] 239)).cell? ⟨w.heap.size,1,none⟩=some (.string nm):=new_cell _ _ _ _ rfl 1;have c3:(w.alloc (.cells #[run,.string nm,.string to,.slice A bs.length c,.bool tears] 239)).cell? ⟨w.heap.size,3,none⟩=some (.slice A bs.length c):=new_cell _ _ _ _ rfl 3;generalize w.alloc (.cells #[run,.string nm,.string to,.slice A bs.length c,.bool tears] 239)=W at *; have hsW:w.heap.size<W.heap.size:=by omega
 have HSd:Hid (SB W.drew A bs):=HS.out;clear hs0
 go_region_held3 (fun w'=>w'.cell? ⟨w.heap.size,1,none⟩=some (.string nm)/\w'.cell? ⟨w.heap.size,3,none⟩=some (.slice A bs.length c))
  (first | go_keep | (refine ⟨?_,?_⟩<;>(first | (rw [K4.out.cell];rfl) | (rw [K1.out.cell];rfl))))
  (first
    | (go_at_call 87;(with_reducible refine (CloneB_any A c bs W.drew HSd.out hl).mono ?_);rintro e w3 ⟨d3,rfl,hr3,hf3,hb3'⟩;have hb3:=of_drew hb3';have K1:=hid (Box.out.on hb3);have H3:=hid (HW.out.on hb3);have R3:=hid hr3;have F3:Hid (∀ g,blk d3=some g->W.heap.size<=g):=hf3;have B3:Hid (Below w.heap.size w w3):=HB0.out.trans (hb3.mono (show w.heap.size<=W.heap.size by omega));obtain ⟨w4,hu,hm4,hg4,hz4⟩:=MapIs.update mkS Tryz.underlying133 H3.out.1 Hn.out (d3,bs);have hu':(Instr.mapUpdate 133 (.map (some b)) (.string nm) (vB d3)).run Tryz.prog w3= .ok () w4:=hu;have M4:=hid hm4;have G4:=hid hg4;have K4:Hid (IsB w4 w.heap.size 239 #[run,.string nm,.string to,.slice A bs.length c,.bool tears]):=K1.out.grown hg4 (fun e=>is_map H3.out.1 (by injection e with e;rw [<- e];exact K1.out));clear hr3 hf3 hb3 hb3' hu hm4 hg4 hz4))
 all_goals (
  go_wp2_with fail
  go_end0
  have hne:∀ e∈E,e.1≠nm->∀ g,blk e.2.1=some g->blk d3≠some g:=fun e he _ g hg hg'=>by
   have h1:=(HW.out.2.1 e he).lt hg;have h2:=F3.out g hg';omega
  refine ⟨rfl,setL E nm (d3,bs),H3.out.set_ M4.out G4.out R3.out hne,plain_setL E nm (d3,bs),fun e he g hg=>?_,Ch.after B3.out (grown_ch G4.out _)⟩;rcases (setL_pairwise (R:=fun _ _=>True) H3.out.1.nodup (List.pairwise_of_forall (by simp)) nm (d3,bs) (by simp) (by simp)).2 e he with rfl | he
  · exact .inl (by have:=F3.out g hg;omega)
  exact .inr ⟨e,he,hg,zA _,rfl⟩)
end Go.Proofs.YteabgcollokgjaaGreatDoor
namespace Go.Proofs.YteabgcollokgjaaGreatDoor
open Go.RowKit Go.MapKept Go.ChangeMaps
theorem del_set {α β:Type} [DecidableEq α] (L:List (α×β)) {a a':α} (h:a≠a') (v:β):delL (setL L a' v) a=setL (delL L a) a' v:=by
 induction L with
 | nil=>simp [delL,setL,h.symm]
 | cons c L ih=>
  by_cases h1:c.1=a'
  · have h2:¬ c.1=a:=fun e=>h (e.symm.trans h1);rw [setL,if_pos h1,delL,if_neg (by simpa using h.symm),delL,if_neg h2,setL,if_pos h1]
  rw [setL,if_neg h1];by_cases h2:c.1=a
  · rw [delL,if_pos h2,delL,if_pos h2]
  rw [delL,if_neg h2,delL,if_neg h2,setL,if_neg h1,ih]
theorem toList_loop (s:ByteArray) (n:Nat):∀ i r,s.size-i=n->ByteArray.toList.loop s i r=r.reverse++s.data.toList.drop i:=by
 induction n with
 | zero=>
  intro i r h;unfold ByteArray.toList.loop;rw [if_neg (by omega),List.drop_eq_nil_of_le (by show s.data.toList.length<=i;have:s.data.toList.length=s.size:=rfl;omega),List.append_nil]
 | succ n ih=>
  intro i r h;unfold ByteArray.toList.loop;have hi:i<s.data.toList.length:=by have:s.data.toList.length=s.size:=rfl;omega
  rw [if_pos (by omega),ih _ _ (by omega),List.drop_eq_getElem_cons hi,List.reverse_cons,List.append_assoc]
  have:s.get! i=s.data.toList[i]:=by
   show s.data[i]! =_;rw [getElem!_pos s.data i (by simpa using hi)];simp
  rw [this];rfl
theorem toList_data (s:ByteArray):s.toList=s.data.toList:=by
 rw [ByteArray.toList,toList_loop s _ 0 [] rfl];rfl
theorem toList_inj {s t:ByteArray} (h:s.toList=t.toList):s=t:=by
 rw [toList_data,toList_data] at h;have:s.data=t.data:=Array.toList_inj.mp h;cases s;cases t;simpa using this
def zeroE:En:=(⟨none,0,0⟩,[])
theorem RB.zero (w:World):RB w ⟨none,0,0⟩ []:=⟨rfl,zA _,fun _=>rfl,(fun ad e=>by cases e)⟩
def renameP (F:List (ByteArray×List UInt8)) (nm to:ByteArray):List (ByteArray×List UInt8):=if nm=to then F else delL (setL F to ((asc F nm).getD [])) nm
set_option maxRecDepth 100000 in
set_option maxHeartbeats 4000000 in
theorem rename_any (b:Nat) (E:Files) (run:Value) (nm to:ByteArray) (d:BD) (tears:Bool) (w:World) (h:FM w b E) (hn:okS nm) (ht:okS to):
 Calls Tryz.prog 280 #[.map (some b),vOp run nm to d tears] w (OpPost b E (renameP (plain E) nm to) w):=by
 have H:=hid h;by_cases he:nm=to
 · have HP:Hid (renameP (plain E) nm to=plain E):=by rw [Hid,renameP,if_pos he]
   subst he;clear h;go_enter Tryz.func280,Tryz.ntmps280;go_wp2_with fail
   go_end0;rw [HP.out];exact ⟨rfl,E,H.out.on (bel1 _ _),rfl,Succ.refl _ _,Ch.below (bel1 _ _) _ _⟩
 obtain ⟨v,Hv⟩:∃ v,Hid ((asc E nm).getD zeroE=v):=⟨_,rfl⟩
 have HP:Hid (renameP (plain E) nm to=plain (delL (setL E to v) nm)):=by
  rw [Hid,renameP,if_neg he,plain_delL,plain_setL,asc_plain, <- Hv.out];cases asc E nm<;>rfl
 have hW:=h.1.alloc (.cells #[run,.string nm,.string to,.slice d.A d.len d.cap,.bool tears] 239)
 have hlook:(Instr.lookup 133 (.map (some b)) (.string nm) false).run Tryz.prog (w.alloc (.cells #[run,.string nm,.string to,.slice d.A d.len d.cap,.bool tears] 239))= .ok (vE v) (w.alloc (.cells #[run,.string nm,.string to,.slice d.A d.len d.cap,.bool tears] 239)):=by
  have:=MapIs.look mkS Tryz.underlying133 (zero22 _) hW hn false;rw [show (Value.string nm)=kS nm from rfl,this, <- Hv.out];cases asc E nm<;>rfl
 obtain ⟨w2,hu,hm2,hg2,hz2⟩:=MapIs.update mkS Tryz.underlying133 hW ht v;obtain ⟨w3,hd,hm3,hg3,hz3⟩:=MapIs.delete mkS Tryz.underlying133 hm2 hn 9 0;have hu':(Instr.mapUpdate 133 (.map (some b)) (.string to) (vE v)).run Tryz.prog (w.alloc (.cells #[run,.string nm,.string to,.slice d.A d.len d.cap,.bool tears] 239))= .ok () w2:=hu;have hd':∀ ty,(Builtin.delete_ #[133,9] ty #[.map (some b),.string nm]).run Tryz.prog w2= .ok (.tuple #[]) w3:=fun _=>hd;have M3:=hid hm3;have G3:Hid ((w.alloc (.cells #[run,.string nm,.string to,.slice d.A d.len d.cap,.bool tears] 239)).grownBy w3 (some b)):=g_trans hg2 hg3;have I2:Hid (IsB w2 w.heap.size 239 #[run,.string nm,.string to,.slice d.A d.len d.cap,.bool tears]):=(IsB.new w _ _).grown hg2 (fun e=>by injection e with e;have:=h.1.lt;omega);have i1:w2.cell? ⟨w.heap.size,1,none⟩=some (.string nm):=by rw [I2.out.cell];rfl
 have i2:w2.cell? ⟨w.heap.size,2,none⟩=some (.string to):=by rw [I2.out.cell];rfl
 have HVin:Hid (v=zeroE∨(nm,v)∈E):=by
  have:=Hv.out;cases ha:asc E nm with
  | none=>rw [ha] at this;exact .inl this.symm
  | some u=>rw [ha] at this;right;rw [<- this];exact mem_of_asc ha
 have hb1:(nm.toList==to.toList)=false:=by rw [beq_eq_false_iff_ne];exact fun e=>he (toList_inj e)
 have He:Hid (nm≠to):=he;clear h hW hu hd hm2 hg2 hz2 hm3 hg3 hz3 hn ht;go_enter Tryz.func280,Tryz.ntmps280;go_wp2_with fail
 go_end0;have hfm:=H.out.on (bel1 w (.cells #[run,.string nm,.string to,.slice d.A d.len d.cap,.bool tears] 239));have hM:=M3.out;rw [del_set E He.out v] at hM;rw [HP.out,del_set E He.out v]
 have hrv:RB (w.alloc (.cells #[run,.string nm,.string to,.slice d.A d.len d.cap,.bool tears] 239)) v.1 v.2:=by
  rcases HVin.out with hz | hi
  · rw [hz];exact RB.zero _
  exact hfm.2.1 _ hi
 have hdn:((delL E nm).map (·.1)).Nodup:=by
  have:E.Pairwise (fun x y=>x.1≠y.1):=by simpa [List.Nodup,List.pairwise_map] using hfm.1.nodup
  have:=delL_pairwise this nm;simpa [List.Nodup,List.pairwise_map] using this
 have hdk:∀ c∈delL E nm,c.1≠nm:=by
  intro c hc e;have h1:=asc_delL hfm.1.nodup nm nm;rw [if_pos rfl] at h1;have h2:=asc_mem hdn hc;rw [e,h1] at h2;cases h2
 obtain ⟨p1,p2⟩:=setL_pairwise (R:=fun x y:ByteArray×En=>∀ g,blk x.2.1=some g->blk y.2.1≠some g) hdn (delL_pairwise hfm.2.2 nm) to v (fun x y hxy g hy hx=>hxy g hx hy) (fun c hc _ g h1 h2=>by
  rcases HVin.out with hz | hi
  · rw [hz] at h2;cases h2
  have:=FM.own hfm.2.2 (delL_sub E nm c hc) hi h1 h2;exact hdk c hc (by rw [this]))
 refine ⟨rfl,_,⟨hM,fun e hee=>?_,p1⟩,rfl,fun e hee g hg=>?_,Ch.after (bel1 _ _) (grown_ch G3.out _)⟩
 · rcases p2 e hee with rfl | hi
   · exact hrv.grown G3.out (RB.ne_map hfm.1 hrv)
   have:=hfm.2.1 e (delL_sub E nm e hi);exact this.grown G3.out (RB.ne_map hfm.1 this)
 rcases p2 e hee with rfl | hi
 · rcases HVin.out with hz | hi
   · rw [hz] at hg;cases hg
   exact .inr ⟨_,hi,hg,zA _,rfl⟩
 exact .inr ⟨e,delL_sub E nm e hi,hg,zA _,rfl⟩
end Go.Proofs.YteabgcollokgjaaGreatDoor
namespace Go.Proofs.YteabgcollokgjaaGreatDoor
open Go.RowKit Go.MapKept Go.ChangeMaps
theorem AppB.ch {w w':World} {d d':BD} {bs:List UInt8} (h:AppB w d bs d' w'):Ch w w' (fun _=>False) (room d):=by
 obtain ⟨_,⟨_,_,_,hc⟩ | ⟨_,_,_,hb⟩⟩:=h
 · exact hc
 exact Ch.below hb _ _
theorem Ch.of_drew {w w':World} {M:Nat->Prop} {G:List (Nat×Nat)} (h:Ch w.drew w' M G):Ch w w' M G:=⟨h.os,h.tape,h.output,h.size,h.block,h.bytes⟩
theorem RB.room {w:World} {d:BD} {bs:List UInt8} (h:RB w d bs) {p:Nat×Nat} (hp:p∈YteabgcollokgjaaGreatDoor.room d):∃ cur,IsB w p.1 5 cur:=by
 obtain ⟨h1,_,_⟩:=mem_room.1 hp;cases hA:d.A with
 | none=>simp [blk,hA] at h1
 | some ad=>
  obtain ⟨g,cur,rfl,hg,_⟩:=h.2.2.2 ad hA;simp [blk,hA] at h1;subst h1;exact ⟨cur,hg⟩
theorem IsB.type {w:World} {g:Nat} {t t':TypeId} {cs cs':Array Value} (h:IsB w g t cs) (h':IsB w g t' cs'):t=t':=by
 have e:some (Obj.cells cs t (0,0))=some (Obj.cells cs' t' (0,0)):=h.symm.trans h';injection e with e;injection e
theorem box_kept {w w':World} {d:BD} {bs:List UInt8} {g:Nat} {cs:Array Value} (hc:Ch w w' (fun _=>False) (room d)) (hr:RB w.drew d bs) (h:IsB w g 239 cs):IsB w' g 239 cs:=
 (hc.block g h.lt (fun h=>h) (fun p hp e=>by obtain ⟨cur,hcur⟩:=hr.room hp;rw [e] at hcur;exact absurd (IsB.type hcur h) (by decide))).trans h
def Of (E:Files) (nm:ByteArray) (v:En):Prop:=v=zeroE∨(nm,v)∈E
theorem Of.rb {w:World} {b:Nat} {E:Files} (h:FM w b E) {nm:ByteArray} {v:En} (hv:Of E nm v):RB w v.1 v.2:=by
 rcases hv with rfl | hi
 · exact RB.zero _
 exact h.2.1 _ hi
theorem Of.own {w:World} {b:Nat} {E:Files} (h:FM w b E) {nm:ByteArray} {v:En} (hv:Of E nm v) {c:ByteArray×En} (hc:c∈E) {g:Nat} (h1:blk c.2.1=some g) (h2:blk v.1=some g):c=(nm,v):=by
 rcases hv with rfl | hi
 · cases h2
 exact FM.own h.2.2 hc hi h1 h2
theorem FM.app {w w':World} {b:Nat} {E:Files} (h:FM w b E) {nm:ByteArray} {v:En} (hv:Of E nm v) (hc:Ch w w' (fun _=>False) (room v.1)):FM w' b E:=by
 refine h.kept (hc.block b h.1.lt (fun h=>h) (fun p hp e=>?_)) (fun e he hr=>hr.ch hc (fun _ _ h=>h) (fun p hp hb=>?_))
 · obtain ⟨cur,hcur⟩:=(hv.rb h).room hp;rw [e] at hcur;exact is_map h.1 hcur
 obtain ⟨m1,m2,_⟩:=mem_room.1 hp;rw [hv.own h he hb m1,m2];exact zA _
theorem Ch.wide {w w':World} {b:Nat} {E:Files} (h:FM w b E) {nm:ByteArray} {v:En} (hv:Of E nm v) {M:Nat->Prop} (hc:Ch w w' (fun _=>False) (room v.1)):Ch w w' M (rooms E):=by
 refine hc.mono (fun _ h=>h.elim) (fun p hp=>?_) (fun p hp q hq e=>?_)
 · rcases hv with rfl | hi
   · cases hp
   exact mem_rooms.2 ⟨_,hi,mem_room.1 hp⟩
 obtain ⟨m1,m2,_⟩:=mem_room.1 hq;obtain ⟨c,hc,c1,c2,_⟩:=mem_rooms.1 hp;have:=hv.own h hc c1 (by rw [<- e];exact m1);subst this;exact Prod.ext e (by rw [m2,c2])
set_option maxRecDepth 100000 in
set_option maxHeartbeats 4000000 in
theorem add_any (b:Nat) (E:Files) (run:Value) (nm to:ByteArray) (A:Option Addr) (c:Nat) (tears:Bool) (bs:List UInt8) (w:World) (h:FM w b E) (hn:okS nm) (hd:RB w ⟨A,bs.length,c⟩ bs) (hl:((asc (plain E) nm).getD []).length+bs.length<=1099511627776):
 Calls Tryz.prog 281 #[.map (some b),.agg #[run,.string nm,.string to,.slice A bs.length c,.bool tears]] w (OpPost b E (setL (plain E) nm ((asc (plain E) nm).getD []++bs)) w):=by
 obtain ⟨v,Hv⟩:∃ v,Hid ((asc E nm).getD zeroE=v):=⟨_,rfl⟩
 have hpv:(asc (plain E) nm).getD []=v.2:=by
  rw [asc_plain, <- Hv.out];cases asc E nm<;>rfl
 have HOf:Hid (Of E nm v):=by
  have:=Hv.out;cases ha:asc E nm with
  | none=>rw [ha] at this;exact .inl this.symm
  | some u=>rw [ha] at this;right;rw [<- this];exact mem_of_asc ha
 rw [hpv] at hl |-; have H:=hid h;have Hd:=hid hd;have Hn:=hid hn;have hblt:=h.1.lt;clear h hd hn hpv;go_enter Tryz.func281,Tryz.ntmps281;go_wp2_with fail
 have Box:Hid (IsB (w.alloc (.cells #[run,.string nm,.string to,.slice A bs.length c,.bool tears] 239)) w.heap.size 239 #[run,.string nm,.string to,.slice A bs.length c,.bool tears]):=IsB.new _ _ _;have HW:Hid (FM (w.alloc (.cells #[run,.string nm,.string to,.slice A bs.length c,.bool tears] 239)) b E):=H.out.on (bel1 _ _);have HS:Hid (SB (w.alloc (.cells #[run,.string nm,.string to,.slice A bs.length c,.bool tears] 239)) A bs):=(Hd.out.on (bel1 _ _)).src;have hs0:w.heap.size+1=(w.alloc (.cells #[run,.string nm,.string to,.slice A bs.length c,.bool tears] 239)).heap.size:=by simp
 have HB0:Hid (Below w.heap.size w (w.alloc (.cells #[run,.string nm,.string to,.slice A bs.length c,.bool tears] 239))):=bel1 _ _;have c1:(w.alloc (.cells #[run,.string nm,.string to,.slice A bs.length c,.bool tears] 239)).cell? ⟨w.heap.size,1,none⟩=some (.string nm):=new_cell _ _ _ _ rfl 1;have c3:(w.alloc (.cells #[run,.string nm,.string to,.slice A bs.length c,.bool tears] 239)).cell? ⟨w.heap.size,3,none⟩=some (.slice A bs.length c):=new_cell _ _ _ _ rfl 3;generalize w.alloc (.cells #[run,.string nm,.string to,.slice A bs.length c,.bool tears] 239)=W at *; have hsW:w.heap.size<W.heap.size:=by omega
 have HSd:Hid (SB W.drew A bs):=HS.out;have HR:Hid (RB W.drew v.1 v.2):=HOf.out.rb HW.out
 have hlook:(Instr.lookup 133 (.map (some b)) (.string nm) false).run Tryz.prog W.drew= .ok (vB v.1) W.drew:=by
  have hm:MapIs okS kS vE W.drew b E:=HW.out.1;have:=MapIs.look mkS Tryz.underlying133 (zero22 _) hm Hn.out false;rw [show (Value.string nm)=kS nm from rfl,this, <- Hv.out];cases asc E nm<;>rfl
 clear hs0
 go_region_held3 (fun w'=>w'.cell? ⟨w.heap.size,1,none⟩=some (.string nm)/\w'.cell? ⟨w.heap.size,3,none⟩=some (.slice A bs.length c))
  (first | go_keep | (refine ⟨?_,?_⟩<;>(first | (rw [K4.out.cell];rfl) | (rw [K1.out.cell];rfl))))
  (first
    | ((with_reducible refine step_append_bytes rfl _ _ rfl v.1 v.2 rfl HR.out A c bs rfl HSd.out hl ?_);intro d3 w3 hl3 ha3;have hc3:=Ch.of_drew ha3.ch;have K1:Hid (IsB w3 w.heap.size 239 #[run,.string nm,.string to,.slice A bs.length c,.bool tears]):=box_kept hc3 HR.out Box.out;have H3:=hid (HW.out.app HOf.out hc3);have A3:=hid ha3;have C3:=hid hc3;obtain ⟨w4,hu,hm4,hg4,hz4⟩:=MapIs.update mkS Tryz.underlying133 H3.out.1 Hn.out (d3,v.2++bs);have hu':(Instr.mapUpdate 133 (.map (some b)) (.string nm) (vB d3)).run Tryz.prog w3= .ok () w4:=hu;have M4:=hid hm4;have G4:=hid hg4;have K4:Hid (IsB w4 w.heap.size 239 #[run,.string nm,.string to,.slice A bs.length c,.bool tears]):=K1.out.grown hg4 (fun e=>is_map H3.out.1 (by injection e with e;rw [<- e];exact K1.out));clear hl3 ha3 hc3 hu hm4 hg4 hz4))
 all_goals (
  go_wp2_with fail
  go_end0
  have hne:∀ e∈E,e.1≠nm->∀ g,blk e.2.1=some g->blk d3≠some g:=fun e he hen g hg hg'=>by
   obtain ⟨_,⟨e1,_,_,_⟩ | ⟨H,e1,e2,_⟩⟩:=A3.out
   · have:=HOf.out.own HW.out he hg (by rw [<- e1];exact hg');exact hen (by rw [this])
   have h1:=(HW.out.2.1 e he).lt hg;rw [e1] at hg';injection hg' with hg';have:W.heap.size<=H:=e2;omega
  refine ⟨rfl,setL E nm (d3,v.2++bs),H3.out.set_ M4.out G4.out A3.out.1 hne,plain_setL E nm (d3,v.2++bs),fun e he g hg=>?_,Ch.after HB0.out (Ch.then (Ch.wide HW.out HOf.out C3.out) (grown_ch G4.out _))⟩;rcases (setL_pairwise (R:=fun _ _=>True) H3.out.1.nodup (List.pairwise_of_forall (by simp)) nm (d3,v.2++bs) (by simp) (by simp)).2 e he with rfl | he
  · obtain ⟨_,⟨e1,e2,e3,_⟩ | ⟨H,e1,e2,_⟩⟩:=A3.out
    · rcases HOf.out with hz | hi
      · rw [e1,hz] at hg;cases hg
      exact .inr ⟨_,hi,by rw [<- e1];exact hg,e3,e2.symm⟩
    refine .inl ?_;have h1:blk d3=some g:=hg;rw [e1] at h1;injection h1 with h1;have:W.heap.size<=H:=e2;omega
  exact .inr ⟨e,he,hg,zA _,rfl⟩)
end Go.Proofs.YteabgcollokgjaaGreatDoor
namespace Go.Proofs.YteabgcollokgjaaGreatDoor
open Go.RowKit Go.MapKept Go.ChangeMaps
def clip (d:BD):BD:=⟨d.A,d.len,d.len⟩
theorem RB.clip {w:World} {d:BD} {bs:List UInt8} (h:RB w d bs):RB w (clip d) bs:=
 ⟨h.1,zA _,fun e=>by have:=h.2.2.1 e;have:=h.2.1;show d.len=0;omega,fun ad e=>by
  obtain ⟨g,cur,h1,h2,h3,h4⟩:=h.2.2.2 ad e;exact ⟨g,cur,h1,h2,Nat.le_trans h.2.1 h3,h4⟩⟩
set_option maxRecDepth 100000 in
set_option maxHeartbeats 1000000 in
theorem Clip_any (d:BD) (bs:List UInt8) (w:World) (h:RB w d bs) (_hl:bs.length<=1099511627776):
 Calls Tryz.prog 211 #[vB d] w (fun e w'=>e= .returned (vB (clip d))/\w'=w):=by
 have h1:=h.1;have h2:=h.2.1;have h3:=h.2.2.1;obtain ⟨A,n,c⟩:=d;simp only at h1 h2 h3;clear h;unfold vB clip;go_enter Tryz.func211,Tryz.ntmps211;go_wp2_with fail
 go_ret;exact ⟨rfl,rfl⟩
abbrev vD (K N P:Value) (dn:Bool) (f:Int):Array Value:= #[K,N,P,.bool dn,.int .i64 f]
def burnF (f:Int):Int:=if f=0 then 0 else f-1
def burnD (dn:Bool) (f:Int):Bool:=if f=0 then dn else decide (f=1)
def BurnPost (p:Nat) (K N P:Value) (dn:Bool) (f:Int) (w:World) (e:Ending) (w':World):Prop:=
 e= .returned (.bool (decide (f=1)))/\IsB w' p 136 (vD K N P (burnD dn f) (burnF f))/\w.grownBy w' (some p)/\w'.heap.size=w.heap.size
theorem set43 {w:World} {p:Nat} {K N P:Value} {dn:Bool} {f:Int} (h:IsB w p 136 (vD K N P dn f)) (x:Int) (d:Bool):
 IsB ((w.setCell ⟨p,4,none⟩ (.int .i64 x)).setCell ⟨p,3,none⟩ (.bool d)) p 136 (vD K N P d x)/\w.grownBy ((w.setCell ⟨p,4,none⟩ (.int .i64 x)).setCell ⟨p,3,none⟩ (.bool d)) (some p)/\((w.setCell ⟨p,4,none⟩ (.int .i64 x)).setCell ⟨p,3,none⟩ (.bool d)).heap.size=w.heap.size:=by
 refine ⟨(h.set_ 4 (.int .i64 x)).set_ 3 (.bool d),g_trans (g_set (p:=⟨p,4,none⟩) (g_refl w _) (.inl rfl) _) (g_set (p:=⟨p,3,none⟩) (g_refl _ _) (.inl rfl) _),by simp [World.setCell]⟩
theorem burn_post {p:Nat} {K N P:Value} {dn d d':Bool} {f f':Int} {w w':World} (e1:Hid (burnD dn f=d)) (e2:Hid (burnF f=f')) (e3:Hid (decide (f=1)=d')) (h:IsB w' p 136 (vD K N P d f')/\w.grownBy w' (some p)/\w'.heap.size=w.heap.size):BurnPost p K N P dn f w (.returned (.bool d')) w':=by
 rw [BurnPost,e1.out,e2.out,e3.out];exact ⟨rfl,h⟩
set_option maxRecDepth 100000 in
set_option maxHeartbeats 1000000 in
theorem burn_any (p:Nat) (K N P:Value) (dn:Bool) (f:Int) (w:World) (h:IsB w p 136 (vD K N P dn f)) (h0:0<=f) (h1:f<=9223372036854775807):
 Calls Tryz.prog 182 #[.pointer (some ⟨p,0,none⟩)] w (BurnPost p K N P dn f w):=by
 have H:=hid h;have c3:w.cell? ⟨p,3,none⟩=some (.bool dn):=by rw [h.cell];rfl
 have c4:w.cell? ⟨p,4,none⟩=some (.int .i64 f):=by rw [h.cell];rfl
 have f3:w.frozen? ⟨p,3,none⟩=false:=h.frozen 3;have f4:w.frozen? ⟨p,4,none⟩=false:=h.frozen 4;clear h;by_cases hz:f=0
 · subst hz;go_enter Tryz.func182,Tryz.ntmps182;go_wp2_with fail
   go_ret;exact ⟨rfl,H.out,g_refl _ _,rfl⟩
 have hb:(f==0)=false:=by simpa using hz
 by_cases ho:f=1
 · subst ho;go_enter Tryz.func182,Tryz.ntmps182;go_wp2_with fail
   go_ret;exact ⟨rfl,set43 H.out _ _⟩
 have hb1:(f-1==0)=false:=by
  rw [beq_eq_false_iff_ne];omega
 have e1:Hid (burnD dn f=false):=by simp [Hid,burnD,hz,ho]
 have e2:Hid (burnF f=f-1):=by simp [Hid,burnF,hz]
 have e3:Hid (decide (f=1)=false):=by simp [Hid,ho]
 go_enter Tryz.func182,Tryz.ntmps182;go_wp2_with fail
 go_ret;exact burn_post e1 e2 e3 (set43 H.out _ _)
end Go.Proofs.YteabgcollokgjaaGreatDoor
namespace Go.Proofs.YteabgcollokgjaaGreatDoor
open Go.RowKit Go.MapKept Go.ChangeMaps
theorem RIs.done_nodup {α β:Type} {ok:α->Prop} {kv:α->Value} {vv:β->Value} {w:World} {b r:Nat} {L done:List (α×β)} {cnt:Nat} (h:RIs ok kv vv w b r L done cnt):(done.map (·.1)).Nodup:=by
 have hL:=h.map.nodup;obtain ⟨es,clock,since,seen,c0,is,_,_,_,_,_,_,_,_,_,hnd,_,hd⟩:=h
 have h1:(is.map (fun i=>L[i]?)).Pairwise (fun x y=>x.map (·.1)≠y.map (·.1)):=by
  rw [List.pairwise_map];refine List.Pairwise.imp_of_mem ?_ hnd;intro i j hi hj hne e
  have m:∀ k∈is,k<L.length:=fun k hk=>by
   have:L[k]? ∈is.map (fun i=>L[i]?):=List.mem_map.2 ⟨k,hk,rfl⟩;rw [hd] at this;obtain ⟨c,_,hc⟩:=List.mem_map.1 this;exact (List.getElem?_eq_some_iff.1 hc.symm).1
  exact hne (nodup_idx hL (by simpa using m i hi) (by simpa using m j hj) (by simpa using e))
 rw [hd,List.pairwise_map] at h1;simpa [List.Nodup,List.pairwise_map] using h1
def clipE (e:ByteArray×En):ByteArray×En:=(e.1,clip e.2.1,e.2.2)
theorem clip_plain (D:Files):plain (D.map clipE)=plain D:=by simp [plain,clipE,Function.comp_def]
theorem clip_set {D:Files} {c:ByteArray×En} (h:((D++[c]).map (·.1)).Nodup):setL (D.map clipE) c.1 (clip c.2.1,c.2.2)=(D++[c]).map clipE:=by
 rw [setL_none]
 · simp [clipE]
 intro d hd e;obtain ⟨x,hx,rfl⟩:=List.mem_map.1 hd;rw [List.map_append,List.nodup_append] at h;exact h.2.2 x.1 (List.mem_map.2 ⟨x,hx,rfl⟩) c.1 (by simp) e
theorem run_makeMap_hint (w:World) (n:Nat):(Instr.makeMap 133 (some (.int .i64 n))).run Tryz.prog w= .ok (.map (some w.heap.size)) (w.alloc (.map #[] 0)):=by
 simp [Instr.makeMap,run_underlying Tryz.underlying133,asInt,asIntOf,Result.andThen]
def CopiedPost (E:Files) (w:World) (e:Ending) (w':World):Prop:=
 ∃ (b':Nat) (D:Files),e= .returned (.map (some b'))/\w.heap.size<=b'/\FM w' b' (D.map clipE)/\D.Perm E/\Below w.heap.size w w'
theorem copied_post {b:Nat} {E D:Files} {w w':World} {H:Nat} (h:FM w b E) (hp:D.Perm E) (hm:MapIs okS kS vE w' H (D.map clipE)) (hb:Below w.heap.size w w') (hH:w.heap.size<=H:=by exact zA _):CopiedPost E w (.returned (.map (some H))) w':=by
 refine ⟨H,D,rfl,hH,⟨hm,fun e he=>?_,?_⟩,hp,hb⟩
 · obtain ⟨x,hx,rfl⟩:=List.mem_map.1 he;exact ((h.2.1 x (hp.mem_iff.1 hx)).on hb).clip
 rw [List.pairwise_map];exact (hp.pairwise_iff (R:=fun x y:ByteArray×En=>∀ g,blk x.2.1=some g->blk y.2.1≠some g) (fun hxy g hy hx=>hxy g hx hy)).2 h.2.2
theorem wpList_next_fs (w:World) {ops:Array Oper} {rest:List Oper} {o:Oper} {a:Act} {Q:Exit->Act->World->Prop} (hg:o.guard=none) (it:Operand) (hop:o.op=Op.next it false) (b r:Nat) (L done:Files) (cnt:Nat)
 (hit:a.eval it= .pointer (some ⟨r,0,none⟩)) (h:RIs okS kS vE w b r L done cnt)
 (hDone:done.Perm L->wpList Tryz.prog ops Q rest (a.put o.dst (.tuple #[.bool false])) w)
 (hMore:∀ (s:ByteArray) (d:BD) (bs:List UInt8) (w':World) (cnt':Nat),(s,d,bs)∈L->RIs okS kS vE w' b r L (done++[(s,d,bs)]) cnt'->cnt'<cnt->w.grownBy w' (some r)->Hid (w'.heap.size=w.heap.size)->
   (Instr.entry (.pointer (some ⟨r,0,none⟩))).run Tryz.prog w'= .ok (.tuple #[.string s,vB d]) w'->wpList Tryz.prog ops Q rest (a.put o.dst (.tuple #[.bool true,.string s,vB d])) w'):
 wpList Tryz.prog ops Q (o::rest) a w:=
 wpList_next_is w hg it hop b r L done cnt hit h hDone (fun c w' cnt' h1 h2 h3 h4 h5 h6=>hMore c.1 c.2.1 c.2.2 w' cnt' h1 h2 h3 h4 h5 h6)
theorem halt_ {p:Prop} (h:Hid p):p:=h
set_option maxRecDepth 100000 in
set_option maxHeartbeats 2000000 in
theorem copied_any (b:Nat) (E:Files) (w:World) (h:FM w b E) (_hn:E.length<=1000000000) (hl:∀ e∈E,e.2.2.length<=1099511627776):
 Calls Tryz.prog 159 #[.map (some b)] w (CopiedPost E w):=by
 have hlen:(Builtin.len_ #[133] 3 #[.map (some b)]).run Tryz.prog w= .ok (.int .i64 E.length) w:=h.1.len Tryz.underlying133 3;have hmk:(Instr.makeMap 133 (some (.int .i64 E.length))).run Tryz.prog w= .ok (.map (some w.heap.size)) (w.alloc (.map #[] 0)):=run_makeMap_hint w E.length;have H:=hid h;have Hl:=hid hl;have hbw:=h.1.lt;have Hm:Hid (MapIs okS kS vE (w.alloc (.map #[] 0)) b E):=h.1.alloc _;clear h hl;go_enter Tryz.func159,Tryz.ntmps159;go_wp2_with (at_range;refine wpList_range_is _ rfl _ 133 rfl 9 34 Tryz.underlying133 b E rfl Hm.out ?_;intro w0 hrg0 hg0 hs0)
 have Hrg0:=hid hrg0;have Hn0:Hid (MapIs okS kS vE w0 w.heap.size ([]:Files)):=(MapIs.made w).kept hg0 (by simp);have Hb0:Hid (Below w.heap.size w w0):=(bel1 w (.map #[] 0)).grown hg0 (by simp) (by simp);clear hrg0 hg0 hlen;simp only [World.size_alloc] at Hrg0 |-; go_frame
 go_loopw [4] (fun _v4 wr=>∃ (done:Files) (cnt:Nat),RIs okS kS vE wr b (w.heap.size+1) E done cnt/\MapIs okS kS vE wr w.heap.size (done.map clipE)/\Below w.heap.size w wr) (fun _ wr=>wr.rangeLeft b (w.heap.size+1))
 case atStart=>exact ⟨[],_,Hrg0.out,Hn0.out,Hb0.out⟩
 obtain ⟨done,cnt,hrg,hmp,hb⟩:=hrel;have hsz:=hb.size;have Hleft:=hid hrg.left_eq;have Hrg:=hid hrg;have Hmp:=hid hmp;have Hb:=hid hb;clear hrg hmp hb
 go_wp2_with (first
  | (at_next;refine wpList_next_fs _ rfl _ rfl b (w.heap.size+1) E done cnt rfl Hrg.out (fun hp=>?_) (fun s d bs w1 cnt1 hc hrg1 hlt1 hg1 hs1 hen=>?_))
  | (at_builtin;refine halt_ ?_))
 · have Hp:=hid hp;clear hp;go_wp2_with fail
   go_ret;exact copied_post H.out Hp.out Hmp.out Hb.out
 have Hc:=hid hc;have Hrg1:=hid hrg1;have Hlt1:=hid hlt1;have Hb1:Hid (Below w.heap.size w w1):=Hb.out.grown hg1 hsz (by simp);have Hm1:Hid (MapIs okS kS vE w1 w.heap.size (done.map clipE)):=Hmp.out.kept hg1 (by simp);have Hr1:Hid (RB w1 d bs):=((H.out.2.1 _ hc).on Hb1.out);obtain ⟨w2,hu,hm2,hg2,hz2⟩:=MapIs.update mkS Tryz.underlying133 Hm1.out (H.out.1.oks _ hc) (clip d,bs);have hu':(Instr.mapUpdate 133 (.map (some w.heap.size)) (.string s) (vB (clip d))).run Tryz.prog w1= .ok () w2:=hu;have HM2:Hid (MapIs okS kS vE w2 w.heap.size ((done++[(s,d,bs)]).map clipE)):=by rw [Hid, <- clip_set hrg1.done_nodup];exact hm2
 have Hb2:Hid (Below w.heap.size w w2):=Hb1.out.grown hg2 Hb1.out.size (by simp);have Hrg2:Hid (RIs okS kS vE w2 b (w.heap.size+1) E (done++[(s,d,bs)]) cnt1):=hrg1.kept hg2 (by simp;omega) (by simp);clear hu hm2 hg2 hz2 hc hrg1 hlt1 hg1;go_wp2_with (go_at_call 211;refine (Clip_any d bs _ Hr1.out (Hl.out _ Hc.out)).mono ?_;rintro e w3 ⟨rfl,rfl⟩)
 go_roundw
 case rel=>exact ⟨_,_,Hrg2.out,HM2.out,Hb2.out⟩
 rw [Hrg2.out.left_eq,Hleft.out];exact Hlt1.out
end Go.Proofs.YteabgcollokgjaaGreatDoor
namespace Go.Proofs.YteabgcollokgjaaGreatDoor
open Go.RowKit Go.MapKept Go.ChangeMaps
theorem FM.clone {w:World} {b:Nat} {E:Files} (h:FM w b E) {es:Array MapEntry} {clock:Nat} (hb:w.heap[b]? =some (.map es clock)):FM (w.alloc (.map es clock)) w.heap.size E:=by
 refine ⟨?_,fun e he=>(h.2.1 e he).on (bel1 _ _),h.2.2⟩;obtain ⟨es',clock',h1,h2⟩:=h.1;rw [h1] at hb;injection hb with hb;injection hb with e1 e2;subst e1 e2;exact ⟨es',clock',heap_alloc_new w _,h2⟩
theorem eq_map_nil (w:World) (b:Nat):(binOp .eql 133 (.map (some b)) (.map none)).run Tryz.prog w= .ok (.bool false) w:=by
 have k:∀ d,(Op.equalIn (d+1) 133 (.map (some b)) (.map none)).run Tryz.prog w= .ok false w:=fun d=>by simp [Op.equalIn,run_underlying Tryz.underlying133]
 simp only [binOp];simp [show Op.equal 133 (.map (some b)) (.map none)=Op.equalIn (9999+1) 133 (.map (some b)) (.map none) from rfl,k 9999]
theorem as_map (w:World) (b:Nat):(Instr.typeAssert (.iface 133 (.map (some b))) 20 133 false).run Tryz.prog w= .ok (.map (some b)) w:=by
 simp [Instr.typeAssert,run_underlying Tryz.underlying133,go_sem,Result.andThen]
theorem clone_map (w:World) {b:Nat} {es:Array MapEntry} {clock:Nat} (hb:w.heap[b]? =some (.map es clock)):
 (Extern.MapsClone.clone #[.iface 133 (.map (some b))]).run Tryz.prog w= .ok (.iface 133 (.map (some w.heap.size))) (w.alloc (.map es clock)):=by
 show (getObj b >>= _).run Tryz.prog w=_;simp [MapKept.run_getObj_map hb,Result.andThen,go_sem]
set_option maxRecDepth 100000 in
set_option maxHeartbeats 2000000 in
theorem mapsClone_any (b:Nat) (E:Files) (w:World) (h:FM w b E):
 Calls Tryz.prog 160 #[.map (some b)] w (fun e w'=>e= .returned (.map (some w.heap.size))/\FM w' w.heap.size E/\Below w.heap.size w w'/\w'.heap.size=w.heap.size+1):=by
 obtain ⟨es,clock,hb,_⟩:=id h.1;have hq:=fun w=>eq_map_nil w b;have H:=hid h;have Hb:=hid hb;clear h;go_enter Tryz.func160,Tryz.ntmps160;go_wp2_with fail
 rw [run_callFunc_extern Tryz.func212 (by kernel_rfl) (by kernel_rfl) (by kernel_rfl) (e:=Extern.MapsClone.clone) (by kernel_rfl),clone_map w Hb.out];simp only [Result.andThen];rw [Oper.upon_value];go_wp2_with fail
 rw [as_map];simp only [Result.andThen];rw [Oper.upon_value];go_wp2_with fail
 go_ret;exact ⟨rfl,H.out.clone Hb.out,bel1 _ _,by simp⟩
end Go.Proofs.YteabgcollokgjaaGreatDoor
namespace Go.Proofs.YteabgcollokgjaaGreatDoor
open Go.RowKit Go.MapKept Go.ChangeMaps
def checkP (dn:Bool) (has:Bool) (ns:List ByteArray):Int:=if dn then 303 else if ns.all nameB then (if has then 0 else 301) else 300
theorem rint {p q:Int} {w W:World} (h:p=q) (hw:w=W):Ending.returned (.int .i64 q)= .returned (.int .i64 p)/\w=W:=⟨by rw [h],hw⟩
set_option maxRecDepth 100000 in
set_option maxHeartbeats 2000000 in
theorem check_any (p:Nat) (K P:Value) (dn:Bool) (f:Int) (b:Nat) (E:Files) (nm:ByteArray) (g o c:Nat) (ns:List ByteArray) (w:World) (h:IsB w p 136 (vD K (.map (some b)) P dn f)) (hm:FM w b E) (hn:okS nm) (hns:∀ n∈ns,okS n) (hl:ns.length<=1000)
 (hc:∀ j,j<ns.length->w.cell? ⟨g,o+j,none⟩=some (.string (ns.getD j ByteArray.empty))):
 Calls Tryz.prog 97 #[.pointer (some ⟨p,0,none⟩),.string nm,.slice (some ⟨g,o,none⟩) ns.length c] w (fun e w'=>e= .returned (.int .i64 (checkP dn (asc E nm).isSome ns))/\w=w'):=by
 have c3:w.cell? ⟨p,3,none⟩=some (.bool dn):=by rw [h.cell];rfl
 have c1:w.cell? ⟨p,1,none⟩=some (.map (some b)):=by rw [h.cell];rfl
 have Hc:=hid hc;have Hns:=hid hns
 obtain ⟨v,hlook⟩:∃ v,(Instr.lookup 133 (.map (some b)) (.string nm) true).run Tryz.prog w= .ok (.tuple #[v,.bool (asc E nm).isSome]) w:=by
  have:=MapIs.look mkS Tryz.underlying133 (zero22 _) hm.1 hn true;rw [show (Value.string nm)=kS nm from rfl,this];cases asc E nm<;>exact ⟨_,rfl⟩
 clear h hc hns hm hn;cases dn with
 | true=>
  go_enter Tryz.func97,Tryz.ntmps97;go_wp2_with fail
  go_ret;exact ⟨rfl,rfl⟩
 | false=>
  go_enter Tryz.func97,Tryz.ntmps97;go_wp2_with fail
  go_loop [17] (fun i=>∃ k:Nat,k<=ns.length/\i= .int .i64 k/\Hid ((ns.take k).all nameB=true)) (fun i=>ns.length-(intOf i).toNat)
  case atStart=>exact ⟨0,by omega,rfl,by simp [Hid]⟩
  obtain ⟨k,hk,rfl,HA⟩:=hrel;by_cases hlt:k<ns.length
  · have hcl:=Hc.out k hlt;obtain ⟨s,Hs⟩:∃ s,Hid (ns.getD k ByteArray.empty=s):=⟨_,rfl⟩;rw [Hs.out] at hcl;have hms:s∈ns:=by rw [<- Hs.out,List.getD_eq_getElem?_getD,List.getElem?_eq_getElem hlt];exact List.getElem_mem hlt
    have Hms:=hid hms
    have HT:Hid (ns.take (k+1)=ns.take k++[s]):=by
     rw [Hid,List.take_succ_eq_append_getElem hlt, <- Hs.out,List.getD_eq_getElem?_getD,List.getElem?_eq_getElem hlt];rfl
    clear hms;cases hb:nameB s with
    | true=>
     have Hb:=hid hb;clear hb;go_wp2_with (go_at_call 98;refine (validName_any s _ (Hns.out s Hms.out)).mono ?_;rw [Hb.out];rintro e w3 ⟨rfl,rfl⟩)
     go_round
     case rel=>exact ⟨k+1,by omega,by go_num,by rw [Hid,HT.out,List.all_append,HA.out];simp [Hb.out]⟩
     simp [intOf];omega
    | false=>
     have Hb:=hid hb;clear hb
     have HN:Hid (checkP false (asc E nm).isSome ns=300):=by
      have:ns.all nameB=false:=by
       rw [List.all_eq_false];exact ⟨s,Hms.out,by simp [Hb.out]⟩
      simp [Hid,checkP,this]
     go_wp2_with (go_at_call 98;refine (validName_any s _ (Hns.out s Hms.out)).mono ?_;rw [Hb.out];rintro e w3 ⟨rfl,rfl⟩)
     go_ret;exact rint HN.out rfl
  obtain rfl:k=ns.length:=by omega
  rw [List.take_length] at HA;cases hb:(asc E nm).isSome with
  | true=>
   rw [hb] at hlook;have HN:Hid (checkP false (asc E nm).isSome ns=0):=by simp only [Hid,checkP,HA.out,hb];rfl
   clear hb;go_wp2_with fail
   go_ret;exact rint HN.out rfl
  | false=>
   rw [hb] at hlook;have HN:Hid (checkP false (asc E nm).isSome ns=301):=by simp only [Hid,checkP,HA.out,hb];rfl
   clear hb;go_wp2_with fail
   go_ret;exact rint HN.out rfl
end Go.Proofs.YteabgcollokgjaaGreatDoor
namespace Go.Proofs.YteabgcollokgjaaGreatDoor
open Go.RowKit Go.MapKept Go.ChangeMaps
inductive Kd where | create | add | remove | rename
def Kd.fn:Kd->Nat | .create=>279 | .add=>281 | .remove=>235 | .rename=>280
structure POp where
 k:Kd
 nm:ByteArray
 to:ByteArray
 bs:List UInt8
 tears:Bool
abbrev FF:=ByteArray->Option (List UInt8)
def FF.set (f:FF) (n:ByteArray) (v:Option (List UInt8)):FF:=fun m=>if n=m then v else f m
def applyF (f:FF) (o:POp):FF:=match o.k with
 | .create=>f.set o.nm (some o.bs)
 | .add=>f.set o.nm (some ((f o.nm).getD []++o.bs))
 | .remove=>f.set o.nm none
 | .rename=>if o.nm=o.to then f else (f.set o.to (some ((f o.nm).getD []))).set o.nm none
theorem plain_nodup {w:World} {b:Nat} {E:Files} (h:FM w b E):((plain E).map (·.1)).Nodup:=by
 have:=h.1.nodup;simpa [plain,Function.comp_def] using this
def OpF (b:Nat) (E:Files) (o:POp) (w:World) (e:Ending) (w':World):Prop:=
 e= .returned (.tuple #[])/\∃ E',FM w' b E'/\(∀ n,asc (plain E') n=applyF (asc (plain E)) o n)/\Succ E E' w.heap.size/\Ch w w' (fun i=>i=b) (rooms E)
theorem setL_nodup {α β:Type} [DecidableEq α] {L:List (α×β)} (h:(L.map (·.1)).Nodup) (a:α) (v:β):((setL L a v).map (·.1)).Nodup:=by
 have h1:L.Pairwise (fun x y=>x.1≠y.1):=by simpa [List.Nodup,List.pairwise_map] using h
 have:=(setL_pairwise (R:=fun x y=>x.1≠y.1) h h1 a v (fun x y hxy=>hxy.symm) (fun c _ hc=>hc)).1;simpa [List.Nodup,List.pairwise_map] using this
abbrev vFn (k:Kd):Value:=.func (.func k.fn) #[] #[]
theorem op_any (b:Nat) (E:Files) (run:Value) (o:POp) (d:BD) (w:World) (h:FM w b E) (hn:okS o.nm) (ht:okS o.to) (hd:RB w d o.bs) (hl:((asc (plain E) o.nm).getD []).length+o.bs.length<=1099511627776):
 Calls Tryz.prog o.k.fn #[.map (some b),vOp run o.nm o.to d o.tears] w (OpF b E o w):=by
 obtain ⟨k,nm,to,bs,tears⟩:=o;obtain ⟨A,n,c⟩:=d;have hln:bs.length=n:=hd.1;subst hln;have hnd:=plain_nodup h;cases k with
 | create=>
  refine (create_any b E run nm to A c tears bs w h hn hd (by simp only at hl;omega)).mono ?_;rintro e w' ⟨rfl,E',h1,h2,h3,h4⟩;exact ⟨rfl,E',h1,fun m=>by rw [h2,asc_setL];rfl,h3,h4⟩
 | add=>
  refine (add_any b E run nm to A c tears bs w h hn hd hl).mono ?_;rintro e w' ⟨rfl,E',h1,h2,h3,h4⟩;exact ⟨rfl,E',h1,fun m=>by rw [h2,asc_setL];rfl,h3,h4⟩
 | remove=>
  refine (remove_any b E run nm to ⟨A,bs.length,c⟩ tears w h hn).mono ?_;rintro e w' ⟨rfl,E',h1,h2,h3,h4⟩;exact ⟨rfl,E',h1,fun m=>by rw [h2,asc_delL hnd];rfl,h3,h4⟩
 | rename=>
  refine (rename_any b E run nm to ⟨A,bs.length,c⟩ tears w h hn ht).mono ?_;rintro e w' ⟨rfl,E',h1,h2,h3,h4⟩;refine ⟨rfl,E',h1,fun m=>?_,h3,h4⟩;rw [h2,renameP,applyF];by_cases he:nm=to
  · simp only [if_pos he]
  simp only [if_neg he];rw [asc_delL (setL_nodup hnd _ _),asc_setL];rfl
end Go.Proofs.YteabgcollokgjaaGreatDoor
namespace Go.Proofs.YteabgcollokgjaaGreatDoor
open Go.RowKit Go.MapKept Go.ChangeMaps
structure St where
 K:FF
 ops:List POp
 dn:Bool
 f:Int
def St.now (s:St):FF:=s.ops.foldl applyF s.K
structure Rp where
 kb:Nat
 nb:Nat
 EK:Files
 EN:Files
 A:Option Addr
 c:Nat
 L:List (POp×BD)
def encO (x:POp×BD):List Value:=[vFn x.1.k,.string x.1.nm,.string x.1.to,.slice x.2.A x.2.len x.2.cap,.bool x.1.tears]
theorem encO_len (x:POp×BD):(encO x).length=5:=rfl
abbrev Rp.row (r:Rp):Value:=.slice r.A r.L.length r.c
def Rp.own (r:Rp) (p:Nat) (i:Nat):Prop:=i=p∨i=r.kb∨i=r.nb∨some i=r.row.ownBlock
structure DevN (w:World) (p:Nat) (r:Rp) (s:St) (N:FF):Prop where
 cells:IsB w p 136 (vD (.map (some r.kb)) (.map (some r.nb)) r.row s.dn s.f)
 kept:FM w r.kb r.EK
 now:FM w r.nb r.EN
 two:r.kb≠r.nb
 pend:w.ownsRow 0 239 5 r.row r.L.length (r.L.flatMap encO)
 ops:∀ x∈r.L,RB w x.2 x.1.bs/\Safe r.EN x.2
 safe:∀ e∈r.EK,Safe r.EN e.2.1
 sK:∀ n,asc (plain r.EK) n=s.K n
 sO:r.L.map (·.1)=s.ops
 sN:∀ n,asc (plain r.EN) n=N n
abbrev Dev (w:World) (p:Nat) (r:Rp) (s:St):Prop:=DevN w p r s s.now
def Roomy (G G':List (Nat×Nat)) (H:Nat):Prop:=∀ q∈G',H<=q.1∨∃ q0∈G,q0.1=q.1/\q0.2<=q.2
theorem Succ.roomy {E E':Files} {H:Nat} (h:Succ E E' H):Roomy (rooms E) (rooms E') H:=by
 intro q hq;obtain ⟨e,he,h1,h2,h3⟩:=mem_rooms.1 hq;rcases h e he q.1 h1 with h4 | ⟨c,hc,c1,c2,c3⟩
 · exact .inl h4
 exact .inr ⟨(q.1,c.2.1.len),mem_rooms.2 ⟨c,hc,c1,rfl,by omega⟩,rfl,by simp only;omega⟩
def Rp.reads (r:Rp) (d:BD):Prop:=(∃ e∈r.EK,d=e.2.1)∨(∃ e∈r.EN,d=e.2.1)∨∃ x∈r.L,d=x.2
def From (H:Nat) (r:Rp) (d':BD):Prop:=(∀ g,blk d'=some g->H<=g)∨(∃ d,r.reads d/\blk d=blk d'/\d'.len<=d.len)∨∃ q∈rooms r.EN,blk d'=some q.1
theorem From.old {H:Nat} {r:Rp} {d:BD} (h:r.reads d):From H r d:=.inr (.inl ⟨d,h,rfl,zA _⟩)
theorem From.low {H H':Nat} {r:Rp} {d:BD} (h:From H' r d) (hH:H<=H'):From H r d:=h.imp (fun h g hg=>Nat.le_trans hH (h g hg)) id
theorem From.en {H:Nat} {r:Rp} {E':Files} {w:World} {b:Nat} (hs:Succ r.EN E' H) (hf:FM w b E') {e:ByteArray×En} (he:e∈E'):From H r e.2.1:=by
 cases hg:blk e.2.1 with
 | none=>exact .inl (fun g h=>by rw [hg] at h;cases h)
 | some g=>
  rcases hs e he g hg with h1 | ⟨c,hc,c1,c2,c3⟩
  · exact .inl (fun g' h=>by rw [hg] at h;injection h with h;omega)
  by_cases hl:e.2.1.len<=c.2.1.len
  · exact .inr (.inl ⟨c.2.1,.inr (.inl ⟨c,hc,rfl⟩),by rw [c1,hg],hl⟩)
  have:=(hf.2.1 e he).2.1;exact .inr (.inr ⟨(g,c.2.1.len),mem_rooms.2 ⟨c,hc,c1,rfl,by omega⟩,hg⟩)
structure StepX (X:BD->Prop) (w w':World) (p:Nat) (r r':Rp):Prop where
 ch:Ch w w' (r.own p) (rooms r.EN)
 own:∀ i,r'.own p i->r.own p i∨w.heap.size<=i
 rooms:Roomy (rooms r.EN) (rooms r'.EN) w.heap.size
 reads:∀ d',r'.reads d'->X d'∨From w.heap.size r d'
abbrev Step (w w':World) (p:Nat) (r r':Rp):Prop:=StepX (fun _=>False) w w' p r r'
end Go.Proofs.YteabgcollokgjaaGreatDoor
namespace Go.Proofs.YteabgcollokgjaaGreatDoor
open Go.RowKit Go.MapKept Go.ChangeMaps
theorem own_ch {w w':World} {e:TypeId} {size n:Nat} {v:Value} {xs:List Value} {M:Nat->Prop} {G:List (Nat×Nat)} (h:w.ownsRow 0 e size v n xs) (hc:Ch w w' M G) (hk:∀ i,some i=v.ownBlock->¬ M i/\∀ q∈G,q.1≠i):w'.ownsRow 0 e size v n xs:=by
 refine ⟨h.1,?_⟩;rcases h.2 with h1 | ⟨g,cap,cur,rfl,h2,hh,h3⟩
 · exact .inl h1
 obtain ⟨k1,k2⟩:=hk g (by simp [Value.ownBlock]);refine .inr ⟨g,cap,cur,rfl,h2,(hc.block g ?_ k1 k2).trans hh,h3⟩;exact (Array.getElem?_eq_some_iff.1 hh).1
theorem FM.ch {w w':World} {b:Nat} {E:Files} {M:Nat->Prop} {G:List (Nat×Nat)} (h:FM w b E) (hc:Ch w w' M G) (hb:¬ M b/\∀ q∈G,q.1≠b) (hr:∀ e∈E,(∀ g,blk e.2.1=some g->¬ M g)/\∀ q∈G,blk e.2.1=some q.1->e.2.1.len<=q.2):FM w' b E:=
 h.kept (hc.block b h.1.lt hb.1 hb.2) (fun e he hre=>hre.ch hc (hr e he).1 (hr e he).2)
theorem DevN.ch {w w':World} {p:Nat} {r:Rp} {s:St} {N:FF} {M:Nat->Prop} {G:List (Nat×Nat)} (h:DevN w p r s N) (hc:Ch w w' M G) (ho:∀ i,r.own p i->¬ M i/\∀ q∈G,q.1≠i) (hr:∀ d,r.reads d->(∀ g,blk d=some g->¬ M g)/\∀ q∈G,blk d=some q.1->d.len<=q.2):DevN w' p r s N where
 cells:=(hc.block p h.cells.lt (ho p (.inl rfl)).1 (ho p (.inl rfl)).2).trans h.cells
 kept:=h.kept.ch hc (ho _ (.inr (.inl rfl))) (fun e he=>hr _ (.inl ⟨e,he,rfl⟩))
 now:=h.now.ch hc (ho _ (.inr (.inr (.inl rfl)))) (fun e he=>hr _ (.inr (.inl ⟨e,he,rfl⟩)))
 two:=h.two
 pend:=own_ch h.pend hc (fun i hi=>ho i (.inr (.inr (.inr hi))))
 ops:=fun x hx=>⟨(h.ops x hx).1.ch hc (hr _ (.inr (.inr ⟨x,hx,rfl⟩))).1 (hr _ (.inr (.inr ⟨x,hx,rfl⟩))).2,(h.ops x hx).2⟩
 safe:=h.safe
 sK:=h.sK
 sO:=h.sO
 sN:=h.sN
theorem DevN.on {w w':World} {p:Nat} {r:Rp} {s:St} {N:FF} (h:DevN w p r s N) (hb:Below w.heap.size w w'):DevN w' p r s N:=
 h.ch (Ch.below hb (fun _=>False) []) (fun _ _=>⟨fun h=>h,by simp⟩) (fun _ _=>⟨fun _ _ h=>h,by simp⟩)
end Go.Proofs.YteabgcollokgjaaGreatDoor
namespace Go.Proofs.YteabgcollokgjaaGreatDoor
open Go.RowKit Go.MapKept Go.ChangeMaps
theorem rooms_byte {w:World} {b:Nat} {E:Files} (h:FM w b E) {q:Nat×Nat} (hq:q∈rooms E):∃ cur,IsB w q.1 5 cur:=by
 obtain ⟨e,he,h1⟩:=mem_rooms.1 hq;exact (h.2.1 e he).room (mem_room.2 h1)
theorem row_is {w:World} {v:Value} {n:Nat} {xs:List Value} (h:w.ownsRow 0 239 5 v n xs) {i:Nat} (hi:some i=v.ownBlock):∃ cur,IsB w i 239 cur:=by
 rcases h.2 with ⟨rfl,_⟩ | ⟨g,cap,cur,rfl,_,hh,_⟩
 · simp [Value.ownBlock] at hi
 simp [Value.ownBlock] at hi;subst hi;exact ⟨cur,hh⟩
theorem DevN.op {w w':World} {p:Nat} {r:Rp} {s:St} {N N':FF} {E':Files} (h:DevN w p r s N) (hc:Ch w w' (fun i=>i=r.nb) (rooms r.EN)) (hf:FM w' r.nb E') (hs:Succ r.EN E' w.heap.size) (hN:∀ n,asc (plain E') n=N' n):DevN w' p { r with EN:=E' } s N':=by
 have hp:¬ p=r.nb/\∀ q∈rooms r.EN,q.1≠p:=⟨fun e=>is_map h.now.1 (by rw [<- e];exact h.cells),fun q hq e=>by
  obtain ⟨cur,hcur⟩:=rooms_byte h.now hq;rw [e] at hcur;exact absurd (IsB.type hcur h.cells) (by decide)⟩
 have hk:¬ r.kb=r.nb/\∀ q∈rooms r.EN,q.1≠r.kb:=⟨h.two,fun q hq e=>by
  obtain ⟨cur,hcur⟩:=rooms_byte h.now hq;rw [e] at hcur;exact is_map h.kept.1 hcur⟩
 have hb:∀ {d:BD} {bs:List UInt8},RB w d bs->Safe r.EN d->RB w' d bs/\Safe E' d:=fun hr hsf=>⟨hr.ch hc (fun g hg e=>RB.ne_map h.now.1 hr (by rw [hg,e])) (fun q hq hbq=>hsf q hq hbq),hsf.next hs (fun g hg=>hr.lt hg)⟩
 exact {
  cells:=(hc.block p h.cells.lt hp.1 hp.2).trans h.cells
  kept:=h.kept.kept (hc.block _ h.kept.1.lt hk.1 hk.2) (fun e he hr=>(hb hr (h.safe e he)).1)
  now:=hf
  two:=h.two
  pend:=own_ch h.pend hc (fun i hi=>by
   obtain ⟨cur,hcur⟩:=row_is h.pend hi;refine ⟨fun e=>is_map h.now.1 (by rw [<- e];exact hcur),fun q hq e=>?_⟩;obtain ⟨cur',hcur'⟩:=rooms_byte h.now hq;rw [e] at hcur';exact absurd (IsB.type hcur' hcur) (by decide))
  ops:=fun x hx=>hb (h.ops x hx).1 (h.ops x hx).2
  safe:=fun e he=>(hb (h.kept.2.1 e he) (h.safe e he)).2
  sK:=h.sK
  sO:=h.sO
  sN:=hN }
end Go.Proofs.YteabgcollokgjaaGreatDoor
namespace Go.Proofs.YteabgcollokgjaaGreatDoor
open Go.RowKit Go.MapKept Go.ChangeMaps
theorem RB.ne_cell {w:World} {p:Nat} {t:TypeId} {cs:Array Value} (h:IsB w p t cs) (ht:t≠5) {d:BD} {bs:List UInt8} (hr:RB w d bs):blk d≠some p:=by
 intro e;cases hA:d.A with
 | none=>simp [blk,hA] at e
 | some ad=>
  obtain ⟨g,cur,rfl,hg,_⟩:=hr.2.2.2 ad hA;simp [blk,hA] at e;subst e;exact ht (IsB.type h hg)
theorem DevN.cell {w w':World} {p:Nat} {r:Rp} {s:St} {N:FF} {dn:Bool} {f:Int} (h:DevN w p r s N) (hg:w.grownBy w' (some p)) (hc:IsB w' p 136 (vD (.map (some r.kb)) (.map (some r.nb)) r.row dn f)):DevN w' p r { s with dn:=dn,f:=f } N:=by
 have hm:∀ {b:Nat} {E:Files},FM w b E->FM w' b E:=fun {b E} hf=>hf.kept (hg.block b hf.1.lt (fun e=>by injection e with e;subst e;exact is_map hf.1 h.cells)) (fun e he hr=>hr.grown hg (RB.ne_cell h.cells (by decide) hr))
 exact {
  cells:=hc
  kept:=hm h.kept
  now:=hm h.now
  two:=h.two
  pend:=own_ch h.pend (grown_ch hg []) (fun i hi=>⟨fun e=>by
   obtain ⟨cur,hcur⟩:=row_is h.pend hi;rw [e] at hcur;exact absurd (IsB.type hcur h.cells) (by decide),by simp⟩)
  ops:=fun x hx=>⟨(h.ops x hx).1.grown hg (RB.ne_cell h.cells (by decide) (h.ops x hx).1),(h.ops x hx).2⟩
  safe:=h.safe
  sK:=h.sK
  sO:=h.sO
  sN:=h.sN }
end Go.Proofs.YteabgcollokgjaaGreatDoor
