/- Q -/
import Derived.Test.YteabgcollokgjaaGreatDoorQP19
set_option linter.unusedSimpArgs false
set_option linter.unusedVariables false
set_option maxRecDepth 100000
set_option maxHeartbeats 32000000
open Go.Lib (hid)
open List renaming sublist_cons_self → zA,length_filter_le → zB,setIfInBounds_toArray → zC
open Nat renaming le_trans → zD
namespace Go.Proofs.YteabgcollokgjaaGreatDoor
section
open Go.RowKit Go.MapKept Go.ChangeMaps Go.Shelf Go.Sort
theorem look_pl {w:World} {cm:Nat} {C:Chs} (h:MapIs okID vID vPl w cm C) {i:ID} (hi:okID i) {pl:Pl} (ha:asc C i=some pl):(Instr.lookup 128 (.map (some cm)) (.agg #[.int .u64 i.1,.int .i64 i.2]) false).run Tryz.prog w= .ok (.agg #[.slice pl.A pl.len pl.cap,.int .i64 pl.f,.int .i64 pl.o]) w:=by
 have:=MapIs.look mkI Tryz.underlying128 (zero138 w) h hi false;rw [ha] at this;exact this
def stays (G:List (ID×Bool)) (ys:List Ent):List Ent:=ys.filter (fun y=> !((asc G y.1).getD false))
def entSum (ys:List Ent):Nat:=(ys.map (fun y=>28+y.1.2.toNat)).sum
theorem entSum_snoc (ys:List Ent) (y:Ent):entSum (ys++[y])=entSum ys+(28+y.1.2.toNat):=by simp [entSum]
theorem entSum_le (ys:List Ent) (h:∀ y∈ys,y.1.2<=8192):entSum ys<=ys.length*8220:=by
 induction ys with
 | nil=>simp [entSum]
 | cons y ys ih=>
  have h1:=ih (fun z hz=>h z (by simp [hz]));have h2:=h y (by simp);have h3:entSum (y::ys)=28+y.1.2.toNat+entSum ys:=by simp [entSum]
  rw [h3,List.length_cons];omega
theorem stays_snoc (G:List (ID×Bool)) (ys:List Ent) (y:Ent):stays G (ys++[y])=stays G ys++if (asc G y.1).getD false then [] else [y]:=by
 unfold stays;rw [List.filter_append];congr 1
 cases h:(asc G y.1).getD false<;>simp [h]
def PR5 (w:World) (H:Nat) (y:Ent) (pc:Nat) (SA:Option Addr) (sn sc:Nat) (ln:Nat) (EA:Option Addr) (ec:Nat) (ys:List Ent) (w':World):Prop:=
 ∃ (v:Value) (n:Nat) (xs:List Value),SW w.heap.size w [cellOb H 166 #[.int .u64 y.1.1,.int .i64 y.1.2,.int .i64 (y.2:Int)],rowOb 166 3 v n xs,cellOb pc 216 #[.int .i64 1,.bool true,.slice SA sn sc,.slice none 0 0,.int .i64 (ln:Int)],ebOb (.slice EA ys.length ec) ys,mpOb okN vN vBl w.heap.size (tlG true)] w'
theorem PR5.cells {w:World} {H:Nat} {y:Ent} {pc:Nat} {SA:Option Addr} {sn sc ln:Nat} {EA:Option Addr} {ec:Nat} {ys:List Ent} {w':World} (h:PR5 w H y pc SA sn sc ln EA ec ys w'):
 w'.cell? ⟨pc,2,none⟩=some (.slice SA sn sc)/\w'.cell? ⟨pc,4,none⟩=some (.int .i64 (ln:Int))/\w'.cell? ⟨H,0,none⟩=some (.int .u64 y.1.1)/\w'.cell? ⟨H,1,none⟩=some (.int .i64 y.1.2)/\w'.cell? ⟨H,2,none⟩=some (.int .i64 (y.2:Int)):=by
 obtain ⟨v,n,xs,h⟩:=h;exact ⟨(h.cell 2 rfl).cell 2,(h.cell 2 rfl).cell 4,(h.cell 0 rfl).cell 0,(h.cell 0 rfl).cell 1,(h.cell 0 rfl).cell 2⟩
def PRPost (x:SR) (G:List (ID×Bool)) (w:World) (e:Ending) (w':World):Prop:=
 (anyAt x.C G=false/\e= .returned (.slice none 0 0)/\Below w.heap.size w w')∨
 (anyAt x.C G=true/\∃ (lg cap pc:Nat) (sv:Value) (ys:List Ent),e= .returned (.slice (some ⟨lg,0,none⟩) 1 cap)/\ys.Perm (durs x.C)/\ys.Pairwise (fun a b=>a.2<=b.2)/\
   SW w.heap.size w [cellOb pc 216 #[.int .i64 1,.bool true,sv,.slice none 0 0,.int .i64 (entSum (stays G ys):Int)],rowOb 166 3 sv (stays G ys).length ((stays G ys).flatMap encE),rowOb 214 1 (.slice (some ⟨lg,0,none⟩) 1 cap) 1 [vPtr pc]] w')
theorem planRemove_any {b:Nat} {w:World} {x:SR} {l:List Ob} (h:Sto b w x l) (gm:Nat) (G:List (ID×Bool)) (hG:MapIs okID vID vBl w gm G) (hin:∀ g∈G,∃ pl,asc x.C g.1=some pl) (hT:∀ f,x.F=some f->f.T=[]) (hFs:anyAt x.C G=true->∃ f,x.F=some f) (hCl:x.C.length<=4096) (hid8:∀ c∈x.C,1<=c.1.2/\c.1.2<=8192):
 Calls Tryz.prog 89 #[vPtr x.ps,.map (some gm)] w (PRPost x G w):=by
 have HS:=hid h;have HG:=hid hG;have HIN:=hid hin;have HT:=hid hT;have hgl:=hG.lt;have hmk:(Instr.makeMap 217 none).run Tryz.prog w= .ok (.map (some w.heap.size)) (w.alloc (.map #[] 0)):=by simp [Instr.makeMap,run_underlying Tryz.underlying217]
 have S0:Hid (SW w.heap.size w [mpOb okN vN vBl w.heap.size (tlG false)] (w.alloc (.map #[] 0))):=(SW.nil w).addMp;have hz:(w.alloc (.map #[] 0)).heap.size=w.heap.size+1:=by simp
 clear h hG hin hT;go_enter Tryz.func89,Tryz.ntmps89;go_upto_block 0 with (at_range;(refine wpList_range_is _ rfl _ 143 rfl 31 4 Tryz.underlying143 gm G rfl (HG.out.alloc _) ?_);refine halt_ ?_)
 intro w1 hrg hg hs;try rw [hz] at hrg
 have S1:Hid (SW w.heap.size w [itrOb okID vID vBl gm (w.heap.size+1) G [] G.length,mpOb okN vN vBl w.heap.size (tlG false)] w1):=by
  have:=S0.out.addIt (w':=w1) (m:=gm) (L:=G) (ok:=okID) (kv:=vID) (vv:=vBl) (by rw [hz];exact hrg) hg (fun y hy hi=>by
   rw [List.mem_singleton.1 hy] at hi;have e:gm=w.heap.size:=hi;omega)
  rw [hz] at this;exact this
 try rw [hz]
 clear hrg hg hs S0 hmk hz;go_wp2_with fail
 try go_frame
 go_loopw [] (fun wr=>∃ (done:List (ID×Bool)) (cnt:Nat),SW w.heap.size w [mpOb okN vN vBl w.heap.size (tlG (anyAt x.C done)),itrOb okID vID vBl gm (w.heap.size+1) G done cnt] wr) (fun wr=>wr.rangeLeft gm (w.heap.size+1))
 case atStart=>exact ⟨[],G.length,S1.out.reorder [1,0] (n:=2) rfl (by decide)⟩
 obtain ⟨done,cnt,hs⟩:=hrel;have S6:=hid hs;have HRI:=hid (hs.get 1 (o:=itrOb okID vID vBl gm (w.heap.size+1) G done cnt) rfl:RIs okID vID vBl wr gm (w.heap.size+1) G done cnt);have Hleft:=hid HRI.out.left_eq;clear hs S1;go_wp2_with (at_next;(refine wpList_next_is _ rfl _ rfl gm (w.heap.size+1) G done cnt rfl HRI.out (fun hp=>?_) (fun c w5 cnt1 hc1 hrg1 hlt1 hg1 hs1 hen=>halt_ ?_)))
 · rename World=>wa
   have S16:Hid (SW w.heap.size w [mpOb okN vN vBl w.heap.size (tlG (anyAt x.C G))] wa):=by
    rw [Hid, <- anyAt_perm hp];exact S6.out.sub (by simp)
   clear S6 HRI Hleft;have hln:=MapIs.len Tryz.underlying217 (S16.out.get 0 (o:=mpOb okN vN vBl w.heap.size (tlG (anyAt x.C G))) rfl) 3;cases hany:anyAt x.C G with
   | false=>
    rw [hany] at hln S16;have h0:(((tlG false).length:Nat):Int)=0:=rfl;rw [h0] at hln;have HAN:=hid hany;clear hany h0;go_wp2_with fail
    rw [hln];simp only [Result.andThen];go_wp2_with fail
    go_ret;exact .inl ⟨HAN.out,rfl,S16.out.2⟩
   | true=>
    rw [hany] at hln S16;have h0:(((tlG true).length:Nat):Int)=1:=rfl;rw [h0] at hln;have HAN:=hid hany;clear hany h0;go_upto_region 16 with fail
    rw [hln];simp only [Result.andThen];clear hln;have HEN:=hid (entries_any x.ps x.cm x.C wa ((HS.out.on S16.out.2).scell.cell 2) (HS.out.on S16.out.2).sch (by omega) (pend_some HS.out));obtain ⟨f,hF⟩:=hFs HAN.out;have HF:=hid hF;clear hF;go_wp2_with (go_at_call 100;(with_reducible refine HEN.out.mono ?_);refine halt_ ?_)
    rintro e w1 ⟨ev,ys,am,rfl,ham,hem,hys,hsrt,hev0,hev1,hb1⟩;have HEM:=hid hem;have HYS:=hid hys;have HSRT:=hid hsrt
    have HE:Hid (EntsAt w1 ev ys):=ents_of hev0 (fun hy=>by
     obtain ⟨g',c',h1,h2,h3,h4⟩:=hev1 hy;exact ⟨g',c',h1,h3,h4⟩)
    have HE0:=hid hev0
    obtain ⟨EA,en,ec,rfl⟩:∃ EA en ec,ev= .slice EA en ec:=by
     by_cases hy:ys=[]
     · exact ⟨_,_,_,hev0 hy⟩
     obtain ⟨g',c',h1,_⟩:=hev1 hy;exact ⟨_,_,_,h1⟩
    have hnew:Hid (∀ i,(Value.slice EA en ec).ownBlock=some i->wa.heap.size<=i/\i<w1.heap.size):=fun i hi=>by
     by_cases hy:ys=[]
     · rw [hev0 hy] at hi;cases hi
     obtain ⟨g',c',h1,h2,h3,_⟩:=hev1 hy;rw [h1] at hi;cases hi
     exact ⟨h2,h3⟩
    have S17:=hid (S16.out.addNewR (o':=ebOb (.slice EA en ec) ys) hb1 HE.out (fun _ h=>h) (fun i hi=>hnew.out i hi))
    have hen:en=ys.length:=by
     by_cases hy:ys=[]
     · have:=hev0 hy;injection this with _ h2 _;rw [h2,hy];rfl
     obtain ⟨g',c',h1,_⟩:=hev1 hy;injection h1
    have hyl:ys.length<=1000000:=by
     rw [hys.length_eq];exact zD (durs_len _) (by omega)
    subst hen;have hwa:=S16.out.2.size;clear hem hys hsrt hev0 hev1 hb1 HEN S16;have c3:w1.cell? ⟨x.ps,3,none⟩=some (.map (some x.fm)):=(HS.out.on S17.out.2).scell.cell 3;have B1b:Hid (Below w1.heap.size w1 (w1.alloc (.cells #[.map (some x.fm)] 129))):=bel1q _ _;have HSO:=hid (sortedF_any w1.heap.size x.fm x.F (w1.alloc (.cells #[.map (some x.fm)] 129)) (by simp) ((IsB.new w1 129 #[.map (some x.fm)]).cell 0) ((HS.out.on S17.out.2).on B1b.out).sfl);go_upto_block 4 with (first | (go_at_call 139;refine (keysF_any (some x.fm) _).mono ?_;rintro e w2 ⟨rfl,rfl⟩) | (go_at_call 138;(with_reducible refine HSO.out.mono ?_);refine halt_ ?_))
    rintro e w2 ⟨NA,nn,nc,rfl,hnn,hnf,hb2⟩;obtain ⟨g,rfl,hg1,hg2,hg3⟩:=hnf f HF.out;rw [HF.out] at hnn;have h1n:nn=1:=hnn;subst h1n;have B12:=hid (B1b.out.trans (hb2.mono (by simp)):Below w1.heap.size w1 w2);have S18:=hid (S17.out.on B12.out);clear hnn hnf hb2 c3 HSO B1b hg1 hg2 S17;have HEM2:=hid (HEM.out.on B12.out);have HA:Hid (w.heap.size<=am):=zD hwa ham;have hlt1:(Instr.lookup 217 (.map (some w.heap.size)) (.int .i64 1) false).run Tryz.prog w2= .ok (.bool true) w2:=look_t (S18.out.get 1 (o:=mpOb okN vN vBl w.heap.size (tlG true)) rfl);clear HE hnew HEM B12 ham hwa HA;go_wp2_with fail
    refine wp_loop_rounds 2 ?_;rw [rounds_succ];have S19:Hid (SW w.heap.size w [rowOb 166 3 (.slice none 0 0) (stays G (ys.take 0)).length ((stays G (ys.take 0)).flatMap encE),cellOb w2.heap.size 216 #[.int .i64 1,.bool true,(.slice none 0 0),.slice none 0 0,.int .i64 0],ebOb (.slice EA ys.length ec) ys,mpOb okN vN vBl w.heap.size (tlG true)] (w2.alloc (.cells #[.int .i64 1,.bool true,.slice none 0 0,.slice none 0 0,.int .i64 0] 216))):=(S18.out.newCell 216 _).newRow 166 3;have HLK:(Instr.lookup 161 (.map (some am)) (.int .i64 1) false).run Tryz.prog (w2.alloc (.cells #[.int .i64 1,.bool true,.slice none 0 0,.slice none 0 0,.int .i64 0] 216))= .ok (.slice EA ys.length ec) (w2.alloc (.cells #[.int .i64 1,.bool true,.slice none 0 0,.slice none 0 0,.int .i64 0] 216)):=look_eM (HEM2.out.alloc _) (fun h0=>HE0.out (List.eq_nil_of_length_eq_zero h0));go_upto_region 22 with fail
    clear S18 HEM2 hlt1 HE0;generalize (w2.alloc (.cells #[.int .i64 1,.bool true,.slice none 0 0,.slice none 0 0,.int .i64 0] 216))=W3 at S19 HLK |-
    have HYI:Hid (∀ y∈ys,okID y.1/\1<=y.1.2/\y.1.2<=8192):=fun y hy=>by
     have h1:=durs_mem (HYS.out.mem_iff.1 hy);exact ⟨HS.out.sch.oks _ h1,hid8 _ h1⟩
    go_wp2_with fail
    clear HLK;go_loopw [92] (fun s92 wr=>∃ (k:Nat) (SA:Option Addr) (sn sc:Nat),k<=ys.length/\s92= .int .i64 (k:Int)/\SW w.heap.size w [rowOb 166 3 (.slice SA sn sc) (stays G (ys.take k)).length ((stays G (ys.take k)).flatMap encE),cellOb w2.heap.size 216 #[.int .i64 1,.bool true,(.slice SA sn sc),.slice none 0 0,.int .i64 ((entSum (stays G (ys.take k)):Nat):Int)],ebOb (.slice EA ys.length ec) ys,mpOb okN vN vBl w.heap.size (tlG true)] wr) (fun s92 _=>ys.length-(intOf s92).toNat)
    case atStart=>exact ⟨0,none,0,0,Nat.zero_le _,rfl,S19.out⟩
    obtain ⟨k,SA,sn,sc,hk,rfl,hs⟩:=hrel;have S20:=hid hs;clear hs S19;by_cases hlt:k<ys.length
    · have hne:ys≠[]:=by
       intro e;rw [e] at hlt;simp at hlt
      obtain ⟨g',c',e1,hgl',hcl'⟩:=(S20.out.get 2 (o:=ebOb (.slice EA ys.length ec) ys) rfl).2 hne;injection e1 with e1 _ e3;subst e1;subst e3;obtain ⟨y,hy⟩:∃ y,ys.getD k ent0=y:=⟨_,rfl⟩;obtain ⟨a0,a1,a2⟩:=hcl' k hlt;rw [hy] at a0 a1 a2
      have hmem:y∈ys:=by
       rw [<- hy,List.getD_eq_getElem?_getD,List.getElem?_eq_getElem hlt];exact List.getElem_mem hlt
      obtain ⟨hok,hy1,hy2⟩:=HYI.out y hmem
      have hts:ys.take (k+1)=ys.take k++[y]:=by
       rw [List.take_succ_eq_append_getElem hlt, <- hy,List.getD_eq_getElem?_getD,List.getElem?_eq_getElem hlt];rfl
      have HTS:Hid (stays G (ys.take (k+1))=stays G (ys.take k)++if (asc G y.1).getD false then [] else [y]):=by
       rw [Hid,hts,stays_snoc]
      have hes:entSum (stays G (ys.take k))<=1000000*8220:=by
       refine zD (entSum_le _ (fun z hz=>(HYI.out z (List.mem_of_mem_take (List.mem_filter.1 hz).1)).2.2)) (Nat.mul_le_mul_right _ ?_);exact zD (zB _ _) (by rw [List.length_take];omega)
      obtain ⟨ln,HLN⟩:∃ ln,Hid (entSum (stays G (ys.take k))=ln):=⟨_,rfl⟩;rw [HLN.out] at S20 hes;have S21:Hid (SW w.heap.size w (cellOb wr.heap.size 166 #[.int .u64 y.1.1,.int .i64 y.1.2,.int .i64 (y.2:Int)]::[rowOb 166 3 (.slice SA sn sc) (stays G (ys.take k)).length ((stays G (ys.take k)).flatMap encE),cellOb w2.heap.size 216 #[.int .i64 1,.bool true,(.slice SA sn sc),.slice none 0 0,.int .i64 (ln:Int)],ebOb (.slice (some ⟨g',0,none⟩) ys.length ec) ys,mpOb okN vN vBl w.heap.size (tlG true)] ) (wr.alloc (.cells #[.int .u64 y.1.1,.int .i64 y.1.2,.int .i64 (y.2:Int)] 166))):=S20.out.newCell 166 _;have hlg:=look_g ((HG.out.on S21.out.2)) hok;have b0:(wr.alloc (.cells #[.int .u64 y.1.1,.int .i64 y.1.2,.int .i64 (y.2:Int)] 166)).cell? ⟨wr.heap.size,0,none⟩=some (.int .u64 y.1.1):=(S21.out.cell 0 rfl).cell 0;have b1:(wr.alloc (.cells #[.int .u64 y.1.1,.int .i64 y.1.2,.int .i64 (y.2:Int)] 166)).cell? ⟨wr.heap.size,1,none⟩=some (.int .i64 y.1.2):=(S21.out.cell 0 rfl).cell 1;clear hcl' hy hmem hts S20 hok;cases hgo:(asc G y.1).getD false with
      | true=>
       rw [hgo] at hlg HTS;have HT2:Hid (stays G (ys.take (k+1))=stays G (ys.take k)):=by rw [Hid,HTS.out];simp
       clear hgo HTS;go_wp2_with fail
       go_roundw
       case rel=>
        refine ⟨k+1,SA,sn,sc,by omega,by go_num,?_⟩;rw [HT2.out,HLN.out];exact S21.out.tail
       simp [intOf];omega
      | false=>
       rw [hgo] at hlg HTS;have HT2:Hid (stays G (ys.take (k+1))=stays G (ys.take k)++[y]):=by rw [Hid,HTS.out];simp
       clear hgo HTS;have hstl:(stays G (ys.take k)).length<=1000000:=zD (zB _ _) (by rw [List.length_take];omega);go_upto_region 26 with fail
       refine wp_region_held_tail [(0,true),(1,true),(2,true),(3,true),(4,true),(5,true),(6,false),(7,false),(8,true),(9,true)] (PR5 w wr.heap.size y w2.heap.size SA sn sc ln (some ⟨g',0,none⟩) ec ys) (by kernel_rfl) (fun _ _ d _ _ h=>by cases d<;>exact h) (by kernel_rfl) ⟨_,_,_,S21.out.drew⟩ ?_;simp only [pk_];have S22:=hid S21.out.drew;clear S21 hlg b0 b1;generalize (wr.alloc (.cells #[.int .u64 y.1.1,.int .i64 y.1.2,.int .i64 (y.2:Int)] 166)).drew=W7 at S22 |-; have HC:=hid (fun (w':World) (h:PR5 w wr.heap.size y w2.heap.size SA sn sc ln (some ⟨g',0,none⟩) ec ys w')=>h.cells)
       iterate 6
        (refine wpHeld_take (v:=?_) (Or.inl ⟨by rfl,?_⟩) ?_
         rotate_left
         · (intro w' hSw;obtain ⟨h1,h2,h3,h4,h5⟩:=HC.out w' hSw;go_simp;try with_reducible rfl)
         try simp only [Act.put,zC,List.set])
       refine wpHeld_run (fun K hK=>?_);go_simp;refine hK.out _ _ ⟨_,_,_,S22.out.alloc _⟩ ?_;clear hK K;try simp only [Act.put,zC,List.set]
       obtain ⟨i1,gi,gz0,gz1,gz2⟩:=info_parts info166;refine wpHeld_run (fun K hK=>?_);refine step_rowS (t:=163) (e:=166) (size:=3) (bytes:=24) (i:=i1) (S22.out.alloc _) 1 rfl (by rfl) (.tmp 105) (.tmp 107) (by rfl) Tryz.underlying163 gi gz0 gz1 gz2 rfl (by omega) (by rfl) ⟨W7.heap.size,0,none⟩ 1 [.int .u64 y.1.1,.int .i64 y.1.2,.int .i64 (y.2:Int)] (by rfl) rfl (three_new W7 _ _ _ 166 _ rfl) (encE_one y) (by unfold maxLen;omega) (by omega) ?_;intro v8 w8 s8;obtain ⟨g8,c8,rfl⟩:=own_some (s8.get 1 rfl) (by omega);refine hK.out _ _ ⟨_,_,_,s8⟩ ?_;clear hK K S22;try simp only [Act.put,zC,List.set]
       (refine wpHeld_take (v:=?_) (Or.inl ⟨by rfl,?_⟩) ?_
        rotate_left
        · (intro w' hSw;obtain ⟨h1,h2,h3,h4,h5⟩:=HC.out w' hSw;go_simp;try with_reducible rfl)
        try simp only [Act.put,zC,List.set])
       (refine wpHeld_take (v:=?_) (Or.inl ⟨by rfl,?_⟩) ?_
        rotate_left
        · (intro w' hSw;obtain ⟨h1,h2,h3,h4,h5⟩:=HC.out w' hSw;go_simp;try with_reducible rfl)
        try simp only [Act.put,zC,List.set])
       refine wpHeld_nil ?_;simp only [dz_];obtain ⟨n0,HN0⟩:∃ n0,Hid ((stays G (ys.take k)).length=n0):=⟨_,rfl⟩;rw [HN0.out] at s8 |-; have HN1:Hid ((stays G (ys.take (k+1))).length=n0+1):=by rw [Hid,HT2.out,List.length_append,HN0.out];rfl
       have S8:Hid (SW w.heap.size w [cellOb wr.heap.size 166 #[.int .u64 y.1.1,.int .i64 y.1.2,.int .i64 (y.2:Int)],rowOb 166 3 (.slice (some ⟨g8,0,none⟩) (n0+1) c8) (stays G (ys.take (k+1))).length ((stays G (ys.take (k+1))).flatMap encE),cellOb w2.heap.size 216 #[.int .i64 1,.bool true,(.slice SA sn sc),.slice none 0 0,.int .i64 (ln:Int)],ebOb (.slice (some ⟨g',0,none⟩) ys.length ec) ys,mpOb okN vN vBl w.heap.size (tlG true)] w8):=by
        rw [Hid,HN1.out,HT2.out,List.flatMap_append];exact s8
       clear s8 HC;have kf:w8.cell? ⟨w2.heap.size,2,none⟩=some (.slice SA sn sc):=(S8.out.cell 2 rfl).cell 2;have kz:w8.frozen? ⟨w2.heap.size,2,none⟩=false:=(S8.out.cell 2 rfl).frozen 2;go_upto_region 27 with fail
       have S9:Hid (SW w.heap.size w [cellOb wr.heap.size 166 #[.int .u64 y.1.1,.int .i64 y.1.2,.int .i64 (y.2:Int)],rowOb 166 3 (.slice (some ⟨g8,0,none⟩) (n0+1) c8) (stays G (ys.take (k+1))).length ((stays G (ys.take (k+1))).flatMap encE),cellOb w2.heap.size 216 #[.int .i64 1,.bool true,(.slice (some ⟨g8,0,none⟩) (n0+1) c8),.slice none 0 0,.int .i64 (ln:Int)],ebOb (.slice (some ⟨g',0,none⟩) ys.length ec) ys,mpOb okN vN vBl w.heap.size (tlG true)] (w8.setCell ⟨w2.heap.size,2,none⟩ (.slice (some ⟨g8,0,none⟩) (n0+1) c8)).drew):=(S8.out.setAt 2 rfl 2 (.slice (some ⟨g8,0,none⟩) (n0+1) c8)).drew;clear kf kz S8;have hsum:IntKind.i64.wrap ((ln:Int)+(28+y.1.2))=(ln:Int)+(28+y.1.2):=IntWalk.i64_in _ (by omega);refine wp_region_held_tail [(0,true),(1,true),(2,true),(3,true),(4,true),(5,true),(6,false),(7,true),(8,true),(9,true)] (SW w.heap.size w [cellOb wr.heap.size 166 #[.int .u64 y.1.1,.int .i64 y.1.2,.int .i64 (y.2:Int)],rowOb 166 3 (.slice (some ⟨g8,0,none⟩) (n0+1) c8) (stays G (ys.take (k+1))).length ((stays G (ys.take (k+1))).flatMap encE),cellOb w2.heap.size 216 #[.int .i64 1,.bool true,(.slice (some ⟨g8,0,none⟩) (n0+1) c8),.slice none 0 0,.int .i64 (ln:Int)],ebOb (.slice (some ⟨g',0,none⟩) ys.length ec) ys,mpOb okN vN vBl w.heap.size (tlG true)]) (by kernel_rfl) (fun _ _ d _ _ h=>by cases d<;>exact h) (by kernel_rfl) S9.out ?_
       simp only [pk_];generalize (w8.setCell ⟨w2.heap.size,2,none⟩ (.slice (some ⟨g8,0,none⟩) (n0+1) c8)).drew=W9 at S9 |-; have HC:=hid (fun (w':World) (h:SW w.heap.size w [cellOb wr.heap.size 166 #[.int .u64 y.1.1,.int .i64 y.1.2,.int .i64 (y.2:Int)],rowOb 166 3 (.slice (some ⟨g8,0,none⟩) (n0+1) c8) (stays G (ys.take (k+1))).length ((stays G (ys.take (k+1))).flatMap encE),cellOb w2.heap.size 216 #[.int .i64 1,.bool true,(.slice (some ⟨g8,0,none⟩) (n0+1) c8),.slice none 0 0,.int .i64 (ln:Int)],ebOb (.slice (some ⟨g',0,none⟩) ys.length ec) ys,mpOb okN vN vBl w.heap.size (tlG true)] w')=>(⟨(h.cell 2 rfl).cell 4,(h.cell 0 rfl).cell 0,(h.cell 0 rfl).cell 1⟩:w'.cell? ⟨w2.heap.size,4,none⟩=some (.int .i64 (ln:Int))/\w'.cell? ⟨wr.heap.size,0,none⟩=some (.int .u64 y.1.1)/\w'.cell? ⟨wr.heap.size,1,none⟩=some (.int .i64 y.1.2)))
       iterate 6
        (refine wpHeld_take (v:=?_) (Or.inl ⟨by rfl,?_⟩) ?_
         rotate_left
         · (intro w' hSw;obtain ⟨h1,h2,h3⟩:=HC.out w' hSw;go_simp;try with_reducible rfl)
         try simp only [Act.put,zC,List.set])
       refine wpHeld_run (fun K hK=>?_);go_simp;go_at_call 140
       refine (frameSize_any y.1 _ (by omega) (by omega)).mono ?_;rintro e w9 ⟨rfl,hb9⟩;have S10:=hid (S9.out.on hb9);go_wp2_with fail
       refine hK.out _ _ S10.out ?_;clear hK K S9 hb9;try simp only [Act.put,zC,List.set]
       iterate 3
        (refine wpHeld_take (v:=?_) (Or.inl ⟨by rfl,?_⟩) ?_
         rotate_left
         · (intro w' hSw;obtain ⟨h1,h2,h3⟩:=HC.out w' hSw;go_simp;try with_reducible rfl)
         try simp only [Act.put,zC,List.set])
       refine wpHeld_nil ?_;simp only [dz_];clear HC;have kf:w9.cell? ⟨w2.heap.size,4,none⟩=some (.int .i64 (ln:Int)):=(S10.out.cell 2 rfl).cell 4;have kz:w9.frozen? ⟨w2.heap.size,4,none⟩=false:=(S10.out.cell 2 rfl).frozen 4
       have HLN2:Hid ((ln:Int)+(28+y.1.2)=((entSum (stays G (ys.take (k+1))):Nat):Int)):=by
        rw [Hid,HT2.out,entSum_snoc,HLN.out];omega
       go_wp2_with fail
       go_roundw
       case rel=>
        refine ⟨k+1,some ⟨g8,0,none⟩,n0+1,c8,by omega,by go_num,?_⟩;rw [<- HLN2.out];exact (S10.out.setAt 2 rfl 4 (.int .i64 ((ln:Int)+(28+y.1.2)))).tail
       simp [intOf];omega
    have hkn:k=ys.length:=by omega
    subst hkn;rw [List.take_length] at S20;clear hlt hk;obtain ⟨i0,hi,hz0,hz1,hz2⟩:=info_parts info214;go_upto_region 29 with fail
    go_wp2_with (at_builtin;(refine wpList_rowS (t:=149) (e:=214) (size:=1) (bytes:=8) (i:=i0) ((S20.out.newRow 214 1).alloc _) 0 rfl (by rfl) (.tmp 122) (.tmp 124) (by rfl) Tryz.underlying149 hi hz0 hz1 hz2 rfl (by omega) (by rfl) ⟨wr.heap.size,0,none⟩ 1 [vPtr w2.heap.size] (by rfl) rfl (fun j u hu=>by have:=new_cell wr 214 #[vPtr w2.heap.size] _ rfl j;rw [lit_add,Nat.zero_add,this];simpa using hu) (by intro u hu;rw [List.mem_singleton.1 hu];rfl) (by unfold maxLen;omega) (by omega) ?_);refine halt_ ?_)
    intro lv w4 s2;obtain ⟨lg,cap,rfl,_,_⟩:=own_one (s2.get 0 rfl);have S21:=hid (s2.reorder [2,1,0,3,4] (n:=5) rfl (by decide));clear s2;go_wp2_with fail
    rw [rounds_succ];go_wp2_with fail
    go_ret;exact .inr ⟨HAN.out,lg,cap,w2.heap.size,.slice SA sn sc,ys,rfl,HYS.out,HSRT.out,S21.out.sub (by simp)⟩
 obtain ⟨i,gv⟩:=c;have S7:=hid (S6.out.nextIt 1 rfl hrg1 hg1);obtain ⟨pl,hpl⟩:=HIN.out _ hc1;have hok:okID i:=HG.out.oks _ hc1;have HPL:=hid hpl;have HOK:=hid hok;have Hlt:=hid hlt1;have S8:Hid (SW w.heap.size w [cellOb w5.heap.size 31 #[.int .u64 i.1,.int .i64 i.2],mpOb okN vN vBl w.heap.size (tlG (anyAt x.C done)),itrOb okID vID vBl gm (w.heap.size+1) G (done++[(i,gv)]) cnt1] (w5.alloc (.cells #[.int .u64 i.1,.int .i64 i.2] 31))):=S7.out.newCell 31 _;clear hc1 hrg1 hlt1 hg1 hs1 hpl hok S6 S7 HRI;refine hid ?_;go_upto_region 5 with fail
 refine wp_region_held_tail [(0,true),(1,true),(2,true),(3,true),(4,true),(5,true),(6,false)] (SW w.heap.size w [cellOb w5.heap.size 31 #[.int .u64 i.1,.int .i64 i.2],mpOb okN vN vBl w.heap.size (tlG (anyAt x.C done)),itrOb okID vID vBl gm (w.heap.size+1) G (done++[(i,gv)]) cnt1]) (by kernel_rfl) (fun _ _ d _ _ h=>by cases d<;>exact h) (by kernel_rfl) S8.out.drew ?_;simp only [pk_];have S9:=hid S8.out.drew;clear S8;generalize (w5.alloc (.cells #[.int .u64 i.1,.int .i64 i.2] 31)).drew=W5 at S9 |-; have HC:=hid (fun (w':World) (h:SW w.heap.size w [cellOb w5.heap.size 31 #[.int .u64 i.1,.int .i64 i.2],mpOb okN vN vBl w.heap.size (tlG (anyAt x.C done)),itrOb okID vID vBl gm (w.heap.size+1) G (done++[(i,gv)]) cnt1] w')=>(⟨(HS.out.on h.2).scell.cell 2,(h.cell 0 rfl).cell 0,(h.cell 0 rfl).cell 1,look_pl (HS.out.on h.2).sch HOK.out HPL.out⟩:w'.cell? ⟨x.ps,2,none⟩=some (.map (some x.cm))/\w'.cell? ⟨w5.heap.size,0,none⟩=some (.int .u64 i.1)/\w'.cell? ⟨w5.heap.size,1,none⟩=some (.int .i64 i.2)/\(Instr.lookup 128 (.map (some x.cm)) (.agg #[.int .u64 i.1,.int .i64 i.2]) false).run Tryz.prog w'= .ok (.agg #[.slice pl.A pl.len pl.cap,.int .i64 pl.f,.int .i64 pl.o]) w'))
 iterate 6
  (refine wpHeld_take (v:=?_) (Or.inl ⟨by rfl,?_⟩) ?_
   rotate_left
   · (intro w' hSw;obtain ⟨h1,h2,h3,h4⟩:=HC.out w' hSw;go_simp;try with_reducible rfl)
   try simp only [Act.put,zC,List.set])
 refine wpHeld_run (fun K hK=>?_);go_simp;refine hK.out _ _ (S9.out.alloc _) ?_;clear hK K HC;refine wpHeld_nil ?_;simp only [dz_];have S10:Hid (SW w.heap.size w (cellOb W5.heap.size 138 #[.slice pl.A pl.len pl.cap,.int .i64 pl.f,.int .i64 pl.o]::[cellOb w5.heap.size 31 #[.int .u64 i.1,.int .i64 i.2],mpOb okN vN vBl w.heap.size (tlG (anyAt x.C done)),itrOb okID vID vBl gm (w.heap.size+1) G (done++[(i,gv)]) cnt1]) (W5.alloc (.cells #[.slice pl.A pl.len pl.cap,.int .i64 pl.f,.int .i64 pl.o] 138))):=S9.out.newCell 138 _;clear S9;go_upto_region 6 with fail
 have HCUT:Hid (anyAt x.C (done++[(i,gv)])=(anyAt x.C done|| !pl.isP)):=by
  rw [Hid,anyAt_snoc,HPL.out];rfl
 generalize W5.alloc (.cells #[.slice pl.A pl.len pl.cap,.int .i64 pl.f,.int .i64 pl.o] 138)=W6 at S10 |-; have k0:W6.cell? ⟨W5.heap.size,0,none⟩=some (.slice pl.A pl.len pl.cap):=(S10.out.cell 0 rfl).cell 0;have k1:W6.cell? ⟨W5.heap.size,1,none⟩=some (.int .i64 pl.f):=(S10.out.cell 0 rfl).cell 1;have HPS:=hid (pend_some HS.out);generalize W5.heap.size=h5 at S10 k0 k1 |-; have qe:∀ W,(binOp .eql 34 (.slice pl.A pl.len pl.cap) (.slice none 0 0)).run Tryz.prog W= .ok (.bool pl.A.isNone) W:=fun W=>eql34 W _ _ _ _ _;go_upto_if 32 with fail
 go_cut [] from 30 to 35 (fun w'=>SW w.heap.size w [cellOb w5.heap.size 31 #[.int .u64 i.1,.int .i64 i.2],mpOb okN vN vBl w.heap.size (tlG (anyAt x.C (done++[(i,gv)]))),itrOb okID vID vBl gm (w.heap.size+1) G (done++[(i,gv)]) cnt1] w')
 case first=>
  cases pl with
  | pend d bs=>
   have hA:=HPS.out i d bs (mem_of_asc HPL.out)
   have e1:(Pl.pend d bs).A.isNone=false:=by
    show d.A.isNone=false;cases hd:d.A with
    | none=>exact absurd hd hA
    | some ad=>rfl
   rw [e1];clear e1 hA qe k0 k1;go_wp2_with fail
   go_meet;rw [HCUT.out,show (!(Pl.pend d bs).isP)=false from rfl,Bool.or_false];exact S10.out.tail
  | «at» o=>
   have e1:(Pl.at o).A.isNone=true:=rfl;rw [e1];clear e1 qe;obtain ⟨w7,hu,hm7,hg7,hz7⟩:=MapIs.update mkN Tryz.underlying217 (S10.out.get 2 (o:=mpOb okN vN vBl w.heap.size (tlG (anyAt x.C done))) rfl) okN1 true;have hu':(Instr.mapUpdate 217 (.map (some w.heap.size)) (.int .i64 1) (.bool true)).run Tryz.prog W6= .ok () w7:=hu;rw [setL_tl] at hm7;have S11:=hid (S10.out.updMp 2 rfl hm7 hg7);simp only [Pl.f] at k1;clear hu hm7 hg7 hz7 S10;go_wp2_with fail
   go_meet;rw [HCUT.out,show (!(Pl.at o).isP)=true from rfl,Bool.or_true];exact S11.out.tail
 have S12:=hid hcut;clear hcut S10 k0 k1 qe HPS HCUT;have c3:wc.cell? ⟨x.ps,3,none⟩=some (.map (some x.fm)):=(HS.out.on S12.out.2).scell.cell 3;have hfl:=HS.out.sfl.lt;have HFL:=hid (HS.out.on S12.out.2).sfl;obtain ⟨F,HF⟩:∃ F,Hid (x.F=F):=⟨_,rfl⟩;rw [HF.out] at HFL;go_wp2_with (at_range;(refine wpList_range_is _ rfl _ 129 rfl 3 146 Tryz.underlying129 x.fm (fL F) rfl HFL.out ?_);refine halt_ ?_)
 intro w8 hrg hg hs8;have S13:=hid (S12.out.addIt hrg hg (fun y hy hi=>absurd (S12.out.1.own y hy _ hi).1 (by omega)));have RI2:=hid hrg;clear hrg hg hs8 S12 c3;generalize wc.heap.size=r2 at *; cases F with
 | none=>
  go_wp2_with fail
  refine wp_loop_rounds 1 ?_;rw [rounds_succ];go_wp2_with (at_next;(refine wpList_next_is _ rfl _ rfl x.fm r2 (fL none) [] 0 rfl RI2.out (fun hp=>?_) (fun c w9 cnt2 hc2 _ _ _ _ _=>absurd hc2 (by simp [fL]))))
  go_roundw
  case rel=>exact ⟨done++[(i,gv)],cnt1,S13.out.tail.tail⟩
  rw [(S13.out.get 3 rfl:RIs okID vID vBl _ gm (w.heap.size+1) G (done++[(i,gv)]) cnt1).left_eq,Hleft.out];exact Hlt.out
 | some f=>
  go_wp2_with fail
  refine wp_loop_rounds 2 ?_;rw [rounds_succ];go_wp2_with (at_next;(refine wpList_next_is _ rfl _ rfl x.fm r2 (fL (some f)) [] 1 rfl RI2.out (fun hp=>absurd hp.length_eq (by simp [fL])) (fun c w9 cnt2 hc2 hrg2 hlt2 hg2 hs2 hen2=>halt_ ?_)))
  obtain rfl:c=(1,f.fb):=by simpa [fL] using hc2
  have S14:=hid (S13.out.nextIt 0 rfl hrg2 hg2);have RI3:=hid hrg2;simp only at hen2;clear hc2 hrg2 hlt2 hg2 hs2 S13 RI2;refine hid ?_;go_upto_region 11 with fail
  refine wp_region_held_tail [(0,true),(1,true),(2,true),(3,true),(4,true)] (SW w.heap.size w [itrOb okN vN vPtr x.fm r2 (fL (some f)) ([]++[(1,f.fb)]) cnt2,cellOb w5.heap.size 31 #[.int .u64 i.1,.int .i64 i.2],mpOb okN vN vBl w.heap.size (tlG (anyAt x.C (done++[(i,gv)]))),itrOb okID vID vBl gm (w.heap.size+1) G (done++[(i,gv)]) cnt1]) (by kernel_rfl) (fun _ _ d _ _ h=>by cases d<;>exact h) (by kernel_rfl) S14.out.drew ?_;simp only [pk_];have S15:=hid S14.out.drew;have RI4:Hid (RIs okN vN vPtr w9.drew x.fm r2 (fL (some f)) ([]++[(1,f.fb)]) cnt2):=RI3.out.on (Below.refl _ _).drew;clear S14 RI3;generalize w9.drew=W9 at S15 RI4 |-; have HC:=hid (fun (w':World) (h:SW w.heap.size w [itrOb okN vN vPtr x.fm r2 (fL (some f)) ([]++[(1,f.fb)]) cnt2,cellOb w5.heap.size 31 #[.int .u64 i.1,.int .i64 i.2],mpOb okN vN vBl w.heap.size (tlG (anyAt x.C (done++[(i,gv)]))),itrOb okID vID vBl gm (w.heap.size+1) G (done++[(i,gv)]) cnt1] w')=>(⟨((HS.out.on h.2).sfile HF.out).1.cell 2,(h.cell 1 rfl).cell 0,(h.cell 1 rfl).cell 1⟩:w'.cell? ⟨f.fb,2,none⟩=some (.map (some f.sb))/\w'.cell? ⟨w5.heap.size,0,none⟩=some (.int .u64 i.1)/\w'.cell? ⟨w5.heap.size,1,none⟩=some (.int .i64 i.2)))
  iterate 5
   (refine wpHeld_take (v:=?_) (Or.inl ⟨by rfl,?_⟩) ?_
    rotate_left
    · (intro w' hSw;obtain ⟨h1,h2,h3⟩:=HC.out w' hSw;go_simp;try with_reducible rfl)
    try simp only [Act.put,zC,List.set])
  refine wpHeld_nil ?_;simp only [dz_];clear HC
  have hlk:(Instr.lookup 143 (.map (some f.sb)) (.agg #[.int .u64 i.1,.int .i64 i.2]) false).run Tryz.prog W9= .ok (.bool false) W9:=by
   rw [look_g ((HS.out.on S15.out.2).sfile HF.out).2.1 HOK.out,HT.out f HF.out];rfl
  go_wp2_with fail
  clear hlk;rw [rounds_succ];go_wp2_with (at_next;(refine wpList_next_is _ rfl _ rfl x.fm r2 (fL (some f)) ([]++[(1,f.fb)]) cnt2 rfl RI4.out (fun hp=>?_) (fun c w10 cnt3 hc3 hrg3 _ _ _ _=>absurd hrg3.len (by simp [fL]))))
  go_roundw
  case rel=>exact ⟨done++[(i,gv)],cnt1,S15.out.tail.tail⟩
  rw [(S15.out.get 3 rfl:RIs okID vID vBl _ gm (w.heap.size+1) G (done++[(i,gv)]) cnt1).left_eq,Hleft.out];exact Hlt.out
structure RFS where
 pc:Nat
 sv:Value
 len:Nat
 xs:List Ent
 lg:Nat
 cap:Nat
abbrev RFS.cs (q:RFS):Array Value:= #[.int .i64 1,.bool true,q.sv,.slice none 0 0,.int .i64 (q.len:Int)]
abbrev RFS.lv (q:RFS):Value:=.slice (some ⟨q.lg,0,none⟩) 1 q.cap
abbrev RFS.obs (q:RFS) (l:List Ob):List Ob:=cellOb q.pc 216 q.cs::rowOb 166 3 q.sv q.xs.length (q.xs.flatMap encE)::rowOb 214 1 q.lv 1 [vPtr q.pc]::l
abbrev delOp (nm:ByteArray):POp:=⟨.remove,fileN nm,ByteArray.empty,[],false⟩
def WDPost (b:Nat) (w0:World) (q:RFS) (mv:Nat) (x:SR) (l:List Ob) (e:Ending) (w':World):Prop:=
 ∃ n r',Cnt x.s.now n/\e= .returned (.int .i64 (reqE x.s n (delOp x.nm)))/\SW b w0 (chOb mv []::q.obs (({ x with r:=r',s:=reqS x.s n (delOp x.nm) }:SR).obs l)) w'
theorem writeDel_any {b:Nat} {w0 w:World} {q:RFS} {mv:Nat} {x:SR} {l:List Ob} (h:SW b w0 (chOb mv []::q.obs (x.obs l)) w) (hlen:q.len=0) (hnm:x.nm.size<=1000) (hL:x.s.ops.length<=1000000):
 Calls Tryz.prog 136 #[vPtr x.ps,.slice (some ⟨q.lg,0,none⟩) 1 q.cap,.map (some mv)] w (WDPost b w0 q mv x l):=by
 obtain ⟨pc,sv,len,xs,lg,cap⟩:=q;simp only at hlen;subst hlen;have cl:w.cell? ⟨lg,0,none⟩=some (vPtr pc):=lv_cell (k:=3) h rfl;have c4:w.cell? ⟨pc,4,none⟩=some (.int .i64 0):=(h.cell 1 rfl).cell 4;have S0:=hid h.drew;have c40:w.drew.cell? ⟨pc,4,none⟩=some (.int .i64 0):=(h.cell 1 rfl).cell 4;clear h;go_enter Tryz.func136,Tryz.ntmps136;go_wp2_with fail
 refine wp_loop_rounds 2 ?_;rw [rounds_succ];go_upto_region 5 with fail
 refine wp_region_held_tail [(0,true),(1,true),(2,true),(3,true),(4,true),(5,true),(6,true),(7,true),(8,true),(9,false)] (SW b w0 (chOb mv []::(⟨pc,sv,0,xs,lg,cap⟩:RFS).obs (x.obs l))) (by kernel_rfl) (fun _ _ d _ _ h=>by cases d<;>exact h) (by kernel_rfl) S0.out ?_;simp only [pk_];generalize w.drew=W2 at S0 |-; have HC:=hid (fun (w':World) (h:SW b w0 (chOb mv []::(⟨pc,sv,0,xs,lg,cap⟩:RFS).obs (x.obs l)) w')=>(⟨(h.cell 5 (g:=x.ps) (t:=131) (cs:=x.cells) rfl).cell 0,(h.cell 1 rfl).cell 0⟩:w'.cell? ⟨x.ps,0,none⟩=some (vPtr x.p)/\w'.cell? ⟨pc,0,none⟩=some (.int .i64 1)))
 iterate 9
  (refine wpHeld_take (v:=?_) (Or.inl ⟨by rfl,?_⟩) ?_
   rotate_left
   · (intro w' hSw;obtain ⟨h1,h2⟩:=HC.out w' hSw;go_simp;try with_reducible rfl)
   try simp only [Act.put,zC,List.set])
 refine wpHeld_run (fun K hK=>?_);go_simp;go_at_call 101
 refine (fileName_any x.ps x.nm W2 ((S0.out.cell 5 (g:=x.ps) (t:=131) (cs:=x.cells) rfl).cell 1) hnm).mono ?_;rintro e w3 ⟨rfl,qq,rfl⟩;have S1:Hid (SW b w0 (chOb mv []::(⟨pc,sv,0,xs,lg,cap⟩:RFS).obs (x.obs l)) (W2.drewN qq)):=S0.out.on ⟨rfl,rfl,rfl,Nat.le_refl _,fun _ _=>rfl⟩;go_wp2_with fail
 refine hK.out _ _ S1.out ?_;clear hK K S0;try simp only [Act.put,zC,List.set]
 refine wpHeld_nil ?_;simp only [dz_];clear HC;generalize W2.drewN qq=w3 at S1 |-; have HRQ:=hid (req_S (k:=4) (Delete_any x.p x.r x.s (fileN x.nm) w3 (S1.out.get 4 (o:=devOb x.p x.r x.s) rfl) (file_ok hnm) hL) S1.out.1 rfl);go_upto_if 36 with (go_at_call 180;(with_reducible refine HRQ.out.mono ?_);rintro e w9 ⟨cn,hcn,rfl,r9,hs9,hb9⟩;have HCN:=hid hcn;have S11:=hid (⟨hs9,S1.out.2.trans hb9⟩:SW b w0 _ w9);clear hcn hs9 hb9)
 obtain ⟨E,HE⟩:∃ E,Hid (reqE x.s cn (delOp x.nm)=E):=⟨_,rfl⟩;rw [HE.out];have S12:Hid (SW b w0 (chOb mv []::(⟨pc,sv,0,xs,lg,cap⟩:RFS).obs (({ x with r:=r9,s:=reqS x.s cn (delOp x.nm) }:SR).obs l)) w9):=S11.out;have cl:w9.cell? ⟨lg,0,none⟩=some (vPtr pc):=lv_cell (k:=3) S12.out rfl;have c4:w9.cell? ⟨pc,4,none⟩=some (.int .i64 0):=(S12.out.cell 1 rfl).cell 4;clear HRQ S1 S11;by_cases h0:E=0
 · have h0':(E !=0)=false:=by simpa using h0
   have H0:=hid h0;clear h0;go_wp2_with fail
   rw [rounds_succ];go_wp2_with fail
   refine wp_loop_rounds 2 ?_;rw [rounds_succ];go_wp2_with fail
   rw [rounds_succ];go_wp2_with fail
   go_ret;exact ⟨cn,r9,HCN.out,by rw [HE.out,H0.out];rfl,S12.out⟩
 have h0':(E !=0)=true:=by simpa using h0
 have H0:=hid h0;clear h0;go_wp2_with fail
 go_ret;exact ⟨cn,r9,HCN.out,by rw [HE.out];rfl,S12.out⟩
theorem SW.delFile {b:Nat} {w0 w w2:World} {l:List Ob} (h:SW b w0 l w) (k:Nat) {fm:Nat} {f:FR} (hk:l[k]? =some (flOb fm (some f))) (hm:MapIs okN vN vPtr w2 fm []) (hg:w.grownBy w2 (some fm)):SW b w0 (l.set k (flOb fm none)) w2:=by
 have:=h.1.stepAt k hk (w':=w2) (o':=flOb fm none) (Fr.grown hg (Or.inl rfl) (fun i hi=>by
  rcases hi with hi | ⟨_,e,_⟩
  · exact .inl (.inl hi)
  · cases e)) (fun i hi=>hi.elim) ⟨hm,fun _ e=>by cases e⟩ (fun i hi=>by
  rcases hi with (hi | ⟨_,e,_⟩) | hi
  · rw [hi];exact hm.lt
  · cases e
  exact hi.elim)
 exact ⟨this.1,h.2.trans this.2⟩
theorem carry_nil (v:Value) (w:World):Calls Tryz.prog 88 #[v,.slice none 0 0] w (fun e w'=>e= .returned (.int .i64 0)/\w=w'):=by
 go_enter Tryz.func88,Tryz.ntmps88;go_wp2_with fail
 go_ret;exact ⟨rfl,rfl⟩
def CarryDel (b:Nat) (w0:World) (x:SR) (l:List Ob) (e:Ending) (w':World):Prop:=
 ∃ n r',Cnt x.s.now n/\∃ E,e= .returned (.int .i64 E)/\
  ((E≠0/\E=reqE x.s n (delOp x.nm)/\SW b w0 (({ x with r:=r',s:=reqS x.s n (delOp x.nm),dead:=E==303 }:SR).obs l) w')∨
   (E≠0/\reqE x.s n (delOp x.nm)=0/\E=syncE (reqS x.s n (delOp x.nm))/\SW b w0 (({ x with r:=r',s:=syncS (reqS x.s n (delOp x.nm)),dead:=E==303 }:SR).obs l) w')∨
   (E=0/\reqE x.s n (delOp x.nm)=0/\syncE (reqS x.s n (delOp x.nm))=0/\SW b w0 (({ x with r:=r',s:=syncS (reqS x.s n (delOp x.nm)),F:=none }:SR).obs l) w'))
theorem carryDel_any {b:Nat} {w0 w:World} {q:RFS} {x:SR} {l:List Ob} (h:SW b w0 (q.obs (x.obs l)) w) (hlen:q.len=0) (hF:∃ f,x.F=some f) (hnm:x.nm.size<=1000) (hL:x.s.ops.length<=999990) (hcn:∀ n,Cnt x.s.now n->n<=200):
 Calls Tryz.prog 88 #[vPtr x.ps,q.lv] w (CarryDel b w0 x l):=by
 obtain ⟨pc,sv,len,xs,lg,cap⟩:=q;simp only at hlen;subst hlen;have H:=hid h;have HCR:=hid (crowded_any (l:=l) (h.1.sub (by simp only [RFS.obs];exact ((zA _ _).trans ((zA _ _).trans (zA _ _))))) lg cap pc true 0 (lv_cell (k:=2) h rfl) ((h.cell 0 rfl).cell 0) ((h.cell 0 rfl).cell 1) ((h.cell 0 rfl).cell 4) hnm hcn);obtain ⟨f,hF⟩:=hF;have HF:=hid hF;clear h hcn hF;show Calls Tryz.prog 88 #[vPtr x.ps,.slice (some ⟨lg,0,none⟩) 1 cap] w _;go_enter Tryz.func88,Tryz.ntmps88;go_upto_region 5 with (go_at_call 135;(with_reducible refine HCR.out.mono ?_);rintro e w1 ⟨rfl,hb1⟩)
 have S1:=hid (H.out.on hb1);have hmk:(Instr.makeMap 128 none).run Tryz.prog w1= .ok (.map (some w1.heap.size)) (w1.alloc (.map #[] 0)):=by simp [Instr.makeMap,run_underlying Tryz.underlying128]
 have HWR:=hid (writeDel_any (q:=⟨pc,sv,0,xs,lg,cap⟩) S1.out.newMap rfl hnm (by omega));clear hb1 HCR H S1;generalize hmv:w1.heap.size=mv at HWR hmk;clear hmv;go_upto_if 24 with (go_at_call 136;(with_reducible refine HWR.out.mono ?_);refine halt_ ?_)
 rintro e w2 ⟨n,r1,hcn,rfl,hs2⟩;have HCN:=hid hcn;obtain ⟨E1,HE1⟩:∃ E1,Hid (reqE x.s n (delOp x.nm)=E1):=⟨_,rfl⟩;rw [HE1.out];obtain ⟨s1,HS1⟩:∃ s1,Hid (reqS x.s n (delOp x.nm)=s1):=⟨_,rfl⟩;rw [HS1.out] at hs2
 have hops:s1.ops.length<=1000000:=by
  rw [<- HS1.out];have:=reqS_ops x.s n (delOp x.nm);omega
 have S3:Hid (SW b w0 (chOb mv []::(⟨pc,sv,0,xs,lg,cap⟩:RFS).obs (({ x with r:=r1,s:=s1 }:SR).obs l)) w2):=hs2;clear hs2 hcn HWR hmk;by_cases h0:E1=0
 · have q1:(E1==0)=true:=by simpa using h0
   have H0:=hid h0;clear h0;have k0:w2.cell? ⟨x.ps,0,none⟩=some (vPtr x.p):=(S3.out.cell 5 rfl).cell 0;have HSY:=hid (goes_S (l:=(chOb mv []::(⟨pc,sv,0,xs,lg,cap⟩:RFS).obs (({ x with r:=r1,s:=s1 }:SR).obs l))) (k:=4) (Sync_any x.p r1 s1 w2 (S3.out.get 4 (o:=devOb x.p r1 s1) rfl) hops) S3.out.1 rfl);go_upto_if 31 with (go_at_call 137;(with_reducible refine HSY.out.mono ?_);rintro e w3 ⟨rfl,r2,hs3,hb3⟩;have S4:=hid (⟨hs3,S3.out.2.trans hb3⟩:SW b w0 _ w3);clear hs3 hb3)
   clear k0 HSY S3;have S5:Hid (SW b w0 (chOb mv []::(⟨pc,sv,0,xs,lg,cap⟩:RFS).obs (({ x with r:=r2,s:=syncS s1 }:SR).obs l)) w3):=S4.out;clear S4;obtain ⟨E2,HE2⟩:∃ E2,Hid (syncE s1=E2):=⟨_,rfl⟩;rw [HE2.out];by_cases h2:E2=0
   · have q2:(E2 !=0)=false:=by simpa using h2
     have H2:=hid h2;clear h2;have HMI:=hid (S5.out.get 0 (o:=chOb mv []) rfl).1;go_wp2_with (at_range;(with_reducible refine wpList_range_is _ rfl _ 128 rfl 31 138 Tryz.underlying128 mv [] rfl HMI.out ?_);intro w4 hrg hg hs;have RI0:=hid hrg;have S6:=hid (S5.out.on (below_of_none hg));clear hrg hg hs)
     refine wp_loop_rounds 1 ?_;rw [rounds_succ];have cl:w4.cell? ⟨lg,0,none⟩=some (vPtr pc):=lv_cell (k:=3) S6.out rfl;have c4:w4.cell? ⟨pc,4,none⟩=some (.int .i64 0):=(S6.out.cell 1 rfl).cell 4;go_wp2_with (at_next;(refine wpList_next_ch _ rfl _ rfl mv w3.heap.size [] [] 0 rfl RI0.out (fun hp=>?_) (fun i pl w5 cnt1 hc1 hrg1 hlt1 hg1 hs1 hen=>absurd hc1 (by simp))))
     refine wp_loop_rounds 2 ?_;rw [rounds_succ]
     have S7:Hid (SW b w0 (chOb mv []::(⟨pc,sv,0,xs,lg,cap⟩:RFS).obs (({ x with r:=r2,s:=syncS s1,F:=some f }:SR).obs l)) w4):=by
      rw [Hid, <- HF.out];exact S6.out
     clear S6 S5 HMI RI0;go_upto_region 22 with fail
     refine wp_region_held_tail [(0,true),(1,true),(2,true),(3,true),(4,true),(5,true),(6,true),(7,true)] (SW b w0 (chOb mv []::(⟨pc,sv,0,xs,lg,cap⟩:RFS).obs (({ x with r:=r2,s:=syncS s1,F:=some f }:SR).obs l))) (by kernel_rfl) (fun _ _ d _ _ h=>by cases d<;>exact h) (by kernel_rfl) S7.out.drew ?_;simp only [pk_];have S8:=hid S7.out.drew;clear S7 cl c4;generalize w4.drew=W4 at S8 |-; have HC:=hid (fun (w':World) (h:SW b w0 (chOb mv []::(⟨pc,sv,0,xs,lg,cap⟩:RFS).obs (({ x with r:=r2,s:=syncS s1,F:=some f }:SR).obs l)) w')=>(⟨(h.cell 5 (g:=x.ps) (t:=131) rfl).cell 3,(h.cell 1 rfl).cell 0⟩:w'.cell? ⟨x.ps,3,none⟩=some (.map (some x.fm))/\w'.cell? ⟨pc,0,none⟩=some (.int .i64 1)))
     iterate 8
      (refine wpHeld_take (v:=?_) (Or.inl ⟨by rfl,?_⟩) ?_
       rotate_left
       · (intro w' hSw;obtain ⟨h1,h2⟩:=HC.out w' hSw;go_simp;try with_reducible rfl)
       try simp only [Act.put,zC,List.set])
     refine wpHeld_nil ?_;simp only [dz_];clear HC;obtain ⟨w6,hrun,hm6,hg6,hz6⟩:=MapIs.delete mkN Tryz.underlying129 (S8.out.get 7 (o:=flOb x.fm (some f)) rfl).1 okN1 3 0;have hrun':∀ ty,(Builtin.delete_ #[129,3] ty #[.map (some x.fm),.int .i64 1]).run Tryz.prog W4= .ok (.tuple #[]) w6:=fun _=>hrun;have S9:=hid (S8.out.delFile 7 (w2:=w6) rfl hm6 hg6);clear hrun hm6 hg6 hz6 S8;go_wp2_with fail
     rw [rounds_succ];go_wp2_with fail
     go_ret;exact ⟨n,r2,HCN.out,0,rfl,.inr (.inr ⟨rfl,by rw [HE1.out,H0.out],by rw [HS1.out,HE2.out,H2.out],by rw [HS1.out];exact S9.out.tail.tail.tail.tail⟩)⟩
   have q2:(E2 !=0)=true:=by simpa using h2
   have H2:=hid h2;clear h2;have kd:w3.cell? ⟨x.ps,6,none⟩=some (.bool x.dead):=(S5.out.cell 5 rfl).cell 6;have kz:w3.frozen? ⟨x.ps,6,none⟩=false:=(S5.out.cell 5 rfl).frozen 6;go_wp2_with fail
   go_ret;exact ⟨n,r2,HCN.out,E2,rfl,.inr (.inl ⟨H2.out,by rw [HE1.out,H0.out],by rw [HS1.out,HE2.out],by rw [HS1.out];exact (S5.out.setAt 5 rfl 6 (.bool (E2==303))).tail.tail.tail.tail⟩)⟩
 have q1:(E1==0)=false:=by simpa using h0
 have q2:(E1 !=0)=true:=by simpa using h0
 have H0:=hid h0;clear h0;have kd:w2.cell? ⟨x.ps,6,none⟩=some (.bool x.dead):=(S3.out.cell 5 rfl).cell 6;have kz:w2.frozen? ⟨x.ps,6,none⟩=false:=(S3.out.cell 5 rfl).frozen 6;go_wp2_with fail
 go_ret;exact ⟨n,r1,HCN.out,E1,rfl,.inl ⟨H0.out,by rw [HE1.out],by rw [HS1.out];exact (S3.out.setAt 5 rfl 6 (.bool (E1==303))).tail.tail.tail.tail⟩⟩
end
end Go.Proofs.YteabgcollokgjaaGreatDoor
